/- The plain laws of the tokens of a text: joining, cutting, spelling, comments, offsets. -/
import Derived.Test.YtmdhkcefbkdkbaaDoorTokLaw
namespace Lfc

theorem brk_textOf (ks : List Nat) : brk false (textOf ks) ≤ 4 * ks.length := by
  have h : ∀ p ∈ pieces, brk false p ≤ 4 := by decide
  have hp : ∀ q, brk false (pieces.getD q []) ≤ 4 := by
    intro q
    rw [List.getD_eq_getElem?_getD]
    cases e : pieces[q]? with
    | none => simp [brk]
    | some p => exact h p (List.mem_of_getElem? e)
  induction ks with
  | nil => simp [textOf, brk]
  | cons k r ih =>
    have h1 := brk_app (pieces.getD k []) (textOf r) false
    have h2 := hp k
    have e : textOf (k :: r) = pieces.getD k [] ++ textOf r := by simp [textOf]
    rw [e, List.length_cons]
    omega
theorem textOf_len (ks : List Nat) : (textOf ks).length ≤ 64 * ks.length := by
  induction ks with
  | nil => simp [textOf]
  | cons k r ih =>
    have e : textOf (k :: r) = pieces.getD k [] ++ textOf r := by simp [textOf]
    have := pieces_len k
    rw [e, List.length_append, List.length_cons]
    omega

/-- Lex of a short text with few tokens. -/
theorem lex_sc (l : List UInt8) (h : l.length ≤ 65536) (hb : brk false l ≤ 20000) : lex l = if (sc 0 l).2.1 = 0 then ((sc 0 l).1, (sc 0 l).2) else ([], (sc 0 l).2) := by
  rw [lex_eq, if_neg (by omega), lexR_sc l 0 [] (by simpa using hb)]
  simp
theorem lex_sc' (l : List UInt8) (h : l.length ≤ 65536) (hb : brk false l ≤ 20000) : lex l = sc 0 l := by
  rw [lex_sc l h hb]
  split
  · rfl
  · rename_i h0; exact Prod.ext (sc_none l 0 h0).symm rfl

/-! Something behind a text -/

theorem cmt_app : ∀ (n : Nat) (l : List UInt8), l.length ≤ n → ∀ (d : Nat) (r z : List UInt8), cmt d l = some r → cmt d (l ++ z) = some (r ++ z) := by
  intro n
  induction n with
  | zero => intro l hl d r z h; obtain rfl := List.eq_nil_of_length_eq_zero (by omega : l.length = 0); simp [cmt] at h
  | succ n ih =>
    intro l hl d r z h
    match l, hl, h with
    | [], _, h => simp [cmt] at h
    | [a], _, h => simp [cmt] at h
    | a :: b :: t, hl, h =>
      simp only [List.length_cons] at hl
      simp only [List.cons_append]
      rw [cmt] at h ⊢
      split at h
      · rename_i h1; rw [if_pos h1]; exact ih t (by omega) _ _ z h
      · rename_i h1
        rw [if_neg h1]
        split at h
        · rename_i h2
          rw [if_pos h2]
          split at h
          · rename_i h3; rw [if_pos h3]; cases h; rfl
          · rename_i h3; rw [if_neg h3]; exact ih t (by omega) _ _ z h
        · rename_i h2
          rw [if_neg h2]
          exact ih (b :: t) (by simp; omega) _ _ z h

theorem runLen_more (p : UInt8 → Bool) (a : List UInt8) (b : UInt8) (z : List UInt8) (h : p b = false ∨ runLen p a < a.length) : runLen p (a ++ b :: z) = runLen p a := by
  induction a with
  | nil =>
    rcases h with h | h
    · simp [runLen, h]
    · simp [runLen] at h
  | cons c r ih =>
    rw [List.cons_append, runLen, runLen]
    split
    · rename_i hc
      rw [ih]
      rcases h with h | h
      · exact .inl h
      · rw [runLen, if_pos hc] at h; simp at h; exact .inr h
    · rfl
theorem take_runLen (p : UInt8 → Bool) (a z : List UInt8) : (a ++ z).take (runLen p a) = a.take (runLen p a) := by
  rw [List.take_append_of_le_length (runLen_le p a)]

/-- What begins with a byte does not depend on what is behind it, if a blank follows; unless it is a comment to the end. -/
theorem nx_app (c : UInt8) (r : List UInt8) (b : UInt8) (z : List UInt8) (hb : nameB b = false) (h11 : (nx (c :: r)).err ≠ 11) (hlast : b.toNat = 10 ∨ (nx (c :: r)).err ≠ 0 ∨ (nx (c :: r)).len < r.length + 1) (h123 : b.toNat ≠ 123) :
    nx (c :: r ++ b :: z) = nx (c :: r) := by
  have hbl : letterB b = false := by
    cases hh : letterB b
    · rfl
    · rw [letter_name b hh] at hb; cases hb
  rw [List.cons_append]
  simp only [nx] at h11 hlast ⊢
  split
  · rfl
  · rename_i hbc
    rw [if_neg hbc] at h11 hlast
    split
    · rename_i h37
      rw [if_pos h37] at h11 hlast
      match r with
      | [] =>
        simp only [pc, List.nil_append]
        rw [if_neg h123, if_pos (by simp [runLen, hbl])]
        simp only [pc] at hlast
        have h10 : b.toNat = 10 := by
          rcases hlast with h | h | h
          · exact h
          · simp at h
          · simp at h
        simp [runLen, notNlB, h10]
      | d :: r' =>
        simp only [pc, List.cons_append] at h11 hlast ⊢
        split
        · rename_i hd
          rw [if_pos hd] at h11
          cases hc : cmt 1 r' with
          | none => rw [hc] at h11; simp at h11
          | some t =>
            rw [cmt_app _ r' (Nat.le_refl _) 1 t (b :: z) hc]
            simp
            omega
        · rename_i hd
          rw [if_neg hd] at h11 hlast
          have e1 : runLen letterB (d :: (r' ++ b :: z)) = runLen letterB (d :: r') := runLen_more letterB (d :: r') b z (.inl hbl)
          have e2 : (d :: (r' ++ b :: z)).take (runLen letterB (d :: r')) = (d :: r').take (runLen letterB (d :: r')) := take_runLen letterB (d :: r') (b :: z)
          rw [e1]
          split
          · rename_i h0
            rw [if_pos h0] at hlast
            have e3 : runLen notNlB (d :: (r' ++ b :: z)) = runLen notNlB (d :: r') := by
              refine runLen_more notNlB (d :: r') b z ?_
              rcases hlast with h | h | h
              · exact .inl (by simp [notNlB, h])
              · simp at h
              · exact .inr (by simp at h ⊢; omega)
            rw [e3]
          · rw [e2]
    · split
      · have e1 : runLen nameB (c :: (r ++ b :: z)) = runLen nameB (c :: r) := runLen_more nameB (c :: r) b z (.inl hb)
        have e2 : (c :: (r ++ b :: z)).take (runLen nameB (c :: r)) = (c :: r).take (runLen nameB (c :: r)) := take_runLen nameB (c :: r) (b :: z)
        rw [e1, e2]
      · rfl

/-- The tokens of a text, a line feed and a text. -/
theorem sc_join (s t : List UInt8) : ∀ n, (sc n s).2.1 = 0 → sc n (s ++ 10 :: t) = if (sc (n + s.length + 1) t).2.1 = 0 then ((sc n s).1 ++ (sc (n + s.length + 1) t).1, (sc (n + s.length + 1) t).2) else ([], (sc (n + s.length + 1) t).2) := by
  have hx : nx (10 :: t) = ⟨0, [], 1, 0⟩ := by simp only [nx]; rw [if_pos (by decide)]
  induction s using item_induct with
  | h0 =>
    intro n _
    rw [List.nil_append, sc_ok _ _ _ (by rw [hx]), hx]
    simp only [put, List.drop_succ_cons, List.drop_zero, sc_nil, List.nil_append, List.length_nil, Nat.add_zero, if_true]
    split
    · rfl
    · rename_i h0; exact Prod.ext (sc_none t _ h0) rfl
  | h1 c r he => intro n h; rw [sc_err _ _ _ he] at h; exact absurd h he
  | h2 c r he ih =>
    intro n h
    have hl := nx_len c r he
    have e : nx (c :: r ++ 10 :: t) = nx (c :: r) := nx_app c r 10 t (by decide) (by rw [he]; decide) (.inl (by decide)) (by decide)
    have e' : nx (c :: (r ++ 10 :: t)) = nx (c :: r) := e
    rw [sc_ok _ _ _ he, put_snd] at h
    rw [List.cons_append, sc_ok _ _ _ (by rw [e']; exact he), e', sc_ok _ _ _ he]
    have ed : (c :: (r ++ 10 :: t)).drop (nx (c :: r)).len = (c :: r).drop (nx (c :: r)).len ++ 10 :: t := by
      rw [← List.cons_append, List.drop_append_of_le_length (by simp; omega)]
    have hn : n + (nx (c :: r)).len + ((c :: r).drop (nx (c :: r)).len).length + 1 = n + (c :: r).length + 1 := by rw [List.length_drop, List.length_cons]; omega
    rw [ed, ih _ h, hn]
    by_cases h0 : (sc (n + (c :: r).length + 1) t).2.1 = 0
    · rw [if_pos h0, if_pos h0]
      refine Prod.ext ?_ (put_snd _ _ _)
      rw [put_fst]
      case h => exact h0
      rw [put_fst _ _ _ h]
      simp
    · rw [if_neg h0, if_neg h0]
      exact put_none _ _ _ h0 rfl

/-- Offsets are relative. -/
def shift (d : Nat) (y : List Tok × Int × Nat) : List Tok × Int × Nat := (y.1.map fun t => ⟨t.kind, t.text, t.pos + d⟩, y.2.1, y.2.2 + d)
theorem sc_shift (d : Nat) (l : List UInt8) : ∀ n, sc (n + d) l = shift d (sc n l) := by
  induction l using item_induct with
  | h0 => intro n; rfl
  | h1 c r he => intro n; rw [sc_err _ _ _ he, sc_err _ _ _ he]; rfl
  | h2 c r he ih =>
    intro n
    rw [sc_ok _ _ _ he, sc_ok _ _ _ he, show n + d + (nx (c :: r)).len = n + (nx (c :: r)).len + d by omega, ih]
    unfold put
    split
    · rfl
    · simp only [shift]
      split
      · rename_i h; simp [h]
      · rename_i h; simp [h]

/-- An error does not depend on what is behind it. -/
theorem sc_cut (s m : List UInt8) : ∀ n, (sc n s).2.1 ≠ 0 → (sc n s).2.1 ≠ 11 → sc n (s ++ 32 :: m) = sc n s := by
  induction s using item_induct with
  | h0 => intro n h; exact absurd rfl h
  | h1 c r he =>
    intro n h h11
    rw [sc_err _ _ _ he] at h11 ⊢
    have e : nx (c :: r ++ 32 :: m) = nx (c :: r) := nx_app c r 32 m (by decide) h11 (.inr (.inl he)) (by decide)
    have e' : nx (c :: (r ++ 32 :: m)) = nx (c :: r) := e
    rw [List.cons_append, sc_err _ _ _ (by rw [e']; exact he), e']
  | h2 c r he ih =>
    intro n h h11
    have hl := nx_len c r he
    rw [sc_ok _ _ _ he, put_snd] at h h11
    have hlt : (nx (c :: r)).len < r.length + 1 := by
      rcases Nat.lt_or_ge (nx (c :: r)).len (r.length + 1) with h1 | h1
      · exact h1
      · rw [List.drop_eq_nil_of_le (by simpa using h1), sc_nil] at h
        exact absurd rfl h
    have e : nx (c :: r ++ 32 :: m) = nx (c :: r) := nx_app c r 32 m (by decide) (by rw [he]; decide) (.inr (.inr hlt)) (by decide)
    have e' : nx (c :: (r ++ 32 :: m)) = nx (c :: r) := e
    have ed : (c :: (r ++ 32 :: m)).drop (nx (c :: r)).len = (c :: r).drop (nx (c :: r)).len ++ 32 :: m := by
      rw [← List.cons_append, List.drop_append_of_le_length (by simp; omega)]
    rw [List.cons_append, sc_ok _ _ _ (by rw [e']; exact he), e', ed, ih _ h h11, sc_ok _ _ _ he]

/-! The spelling of tokens -/

theorem sc_valid (l : List UInt8) : ∀ n, ∀ t ∈ (sc n l).1, valid t := by
  induction l using item_induct with
  | h0 => intro n t ht; simp [sc_nil] at ht
  | h1 c r he => intro n t ht; rw [sc_err _ _ _ he] at ht; simp at ht
  | h2 c r he ih =>
    intro n t ht
    rw [sc_ok _ _ _ he] at ht
    unfold put at ht
    split at ht
    · exact ih _ t ht
    · rename_i hk
      split at ht
      · rcases List.mem_cons.1 ht with rfl | ht
        · exact (nx_valid c r n he hk).1
        · exact ih _ t ht
      · simp at ht

theorem name_not (c : UInt8) (h : nameB c = true) : blankB c = false ∧ ¬ c.toNat = 37 := by
  have := of_decide_eq_true h
  exact ⟨decide_eq_false (by omega), by omega⟩
theorem special_not' (c : UInt8) (h : specialB c = true) : blankB c = false ∧ ¬ c.toNat = 37 ∧ nameB c = false := by
  have := of_decide_eq_true h
  exact ⟨decide_eq_false (by omega), by omega, decide_eq_false (by omega)⟩
theorem blank_not (c : UInt8) (h : blankB c = true) : nameB c = false ∧ letterB c = false := by
  have := of_decide_eq_true h
  exact ⟨decide_eq_false (by omega), decide_eq_false (by omega)⟩

/-- A valid token, spelled ahead of a blank or of nothing, is read. -/
theorem nx_spell (t : Tok) (z : List UInt8) (hv : valid t) (hz : ∀ d q, z = d :: q → blankB d = true) : nx (spT t ++ z) = ⟨t.kind, t.text, (spT t).length, 0⟩ ∧ 1 ≤ (spT t).length := by
  rcases hv with ⟨hk, hne, h64, hall⟩ | ⟨hk, c, hs, ht⟩ | ⟨hk, hne, h64, hall⟩
  · have hsp : spT t = t.text := by unfold spT; rw [if_neg (by rw [hk]; split <;> decide)]
    rw [hsp]
    have hrun := runLen_app nameB t.text z hall (fun d q h => (blank_not d (hz d q h)).1)
    cases hx : t.text with
    | nil => exact absurd hx hne
    | cons c r =>
      have hc := hall c (by rw [hx]; exact List.mem_cons_self)
      have h1 := name_not c hc
      rw [hx] at hrun
      have hrun' : runLen nameB (c :: (r ++ z)) = r.length + 1 := by simpa using hrun
      have htk : (c :: (r ++ z)).take (r.length + 1) = c :: r := by rw [List.take_succ_cons, List.take_left]
      refine ⟨?_, by simp⟩
      rw [List.cons_append]
      simp only [nx]
      rw [h1.1, if_neg (by simp), if_neg h1.2, hc, if_pos rfl, hrun', htk]
      unfold nm
      rw [hx] at h64 hk
      rw [if_neg (by omega), ← hk]
  · have hsp : spT t = [c] := by unfold spT; rw [if_neg (by rw [hk]; decide), ht]
    have h1 := special_not' c hs
    rw [hsp, hk, ht]
    refine ⟨?_, by simp⟩
    simp only [List.cons_append, List.nil_append, nx]
    rw [h1.1, if_neg (by simp), if_neg h1.2.1, h1.2.2, if_neg (by simp), hs, if_pos rfl]
    rfl
  · have hsp : spT t = 37 :: t.text := by unfold spT; rw [if_pos hk]
    rw [hsp, hk]
    have hrun := runLen_app letterB t.text z hall (fun d q h => (blank_not d (hz d q h)).2)
    refine ⟨?_, by simp⟩
    cases hx : t.text with
    | nil => exact absurd hx hne
    | cons c r =>
      have hc := of_decide_eq_true (hall c (by rw [hx]; exact List.mem_cons_self))
      rw [hx] at hrun h64
      have hrun' : runLen letterB (c :: (r ++ z)) = r.length + 1 := by simpa using hrun
      have htk : (c :: (r ++ z)).take (r.length + 1) = c :: r := by rw [List.take_succ_cons, List.take_left]
      rw [List.cons_append]
      simp only [nx, List.cons_append]
      rw [if_neg (by decide), if_pos (by decide)]
      simp only [pc]
      rw [if_neg (by omega), hrun', if_neg (by omega), if_neg (by simp at h64; omega), htk]
      rfl

theorem sc_blank (n : Nat) (c : UInt8) (r : List UInt8) (h : blankB c = true) : sc n (c :: r) = sc (n + 1) r := by
  have e : nx (c :: r) = ⟨0, [], 1, 0⟩ := by simp only [nx]; rw [h, if_pos rfl]
  rw [sc_ok _ _ _ (by rw [e]), e]
  simp [put]
theorem sc_tok (n : Nat) (t : Tok) (z : List UInt8) (hv : valid t) (hz : ∀ d q, z = d :: q → blankB d = true) (h0 : (sc (n + (spT t).length) z).2.1 = 0) :
    sc n (spT t ++ z) = (⟨t.kind, t.text, n⟩ :: (sc (n + (spT t).length) z).1, (sc (n + (spT t).length) z).2) := by
  obtain ⟨e, h1⟩ := nx_spell t z hv hz
  cases hx : spT t ++ z with
  | nil => have : (spT t ++ z).length = 0 := by rw [hx]; rfl
           rw [List.length_append] at this; omega
  | cons c r =>
    have hd : (c :: r).drop (spT t).length = z := by rw [← hx, List.drop_left]
    rw [hx] at e
    have hk : t.kind ≠ 0 := by
      rcases hv with ⟨hk, _⟩ | ⟨hk, _⟩ | ⟨hk, _⟩
      · rw [hk]; split <;> decide
      · rw [hk]; decide
      · rw [hk]; decide
    rw [sc_ok _ _ _ (by rw [e]), e]
    simp only
    rw [hd]
    unfold put
    rw [if_neg hk, if_pos h0]

/-- The same tokens, offsets aside. -/
def sameKT (a b : List Tok) : Prop := a.map (fun t => (t.kind, t.text)) = b.map (fun t => (t.kind, t.text))

theorem sc_spell (l : List Tok) (hv : ∀ t ∈ l, valid t) : ∀ n, ∃ ts, sc n (spell l) = (ts, 0, n + (spell l).length) ∧ sameKT ts l := by
  induction l with
  | nil => intro n; exact ⟨[], rfl, rfl⟩
  | cons t r ih =>
    intro n
    cases r with
    | nil =>
      have := sc_tok n t [] (hv t List.mem_cons_self) (fun d q h => by cases h) rfl
      rw [List.append_nil] at this
      refine ⟨[⟨t.kind, t.text, n⟩], ?_, rfl⟩
      simp only [spell, List.flatMap_nil, List.append_nil]
      rw [this]
      rfl
    | cons u q =>
      have es : spell (t :: u :: q) = spT t ++ 32 :: spell (u :: q) := by simp [spell]
      obtain ⟨ts, e1, e2⟩ := ih (fun x hx => hv x (List.mem_cons_of_mem _ hx)) (n + (spT t).length + 1)
      have eb : sc (n + (spT t).length) (32 :: spell (u :: q)) = sc (n + (spT t).length + 1) (spell (u :: q)) := sc_blank _ _ _ (by decide)
      have := sc_tok n t (32 :: spell (u :: q)) (hv t List.mem_cons_self) (fun d q h => by cases h; decide) (by rw [eb, e1])
      refine ⟨⟨t.kind, t.text, n⟩ :: ts, ?_, ?_⟩
      · rw [es, this, eb, e1]
        simp only [List.length_append, List.length_cons]
        congr 2
        omega
      · simp only [sameKT, List.map_cons] at e2 ⊢
        rw [e2]

/-- What can stand behind a token. -/
def gapOk (g : List UInt8) : Prop := (∃ d q, g = d :: q ∧ blankB d = true) ∧ ∀ n z, sc n (g ++ z) = sc (n + g.length) z
def rend (ps : List (Tok × List UInt8)) : List UInt8 := ps.flatMap fun p => spT p.1 ++ p.2
theorem sc_rend (ps : List (Tok × List UInt8)) (hv : ∀ p ∈ ps, valid p.1 ∧ gapOk p.2) : ∀ n, ∃ ts, sc n (rend ps) = (ts, 0, n + (rend ps).length) ∧ sameKT ts (ps.map (·.1)) := by
  induction ps with
  | nil => intro n; exact ⟨[], rfl, rfl⟩
  | cons p r ih =>
    intro n
    obtain ⟨hv1, ⟨d, q, hg, hd⟩, hgap⟩ := hv p List.mem_cons_self
    obtain ⟨ts, e1, e2⟩ := ih (fun x hx => hv x (List.mem_cons_of_mem _ hx)) (n + (spT p.1).length + p.2.length)
    have er : rend (p :: r) = spT p.1 ++ (p.2 ++ rend r) := by simp [rend]
    have eb : sc (n + (spT p.1).length) (p.2 ++ rend r) = sc (n + (spT p.1).length + p.2.length) (rend r) := hgap _ _
    have := sc_tok n p.1 (p.2 ++ rend r) hv1 (fun d' q' h => by rw [hg, List.cons_append] at h; cases h; exact hd) (by rw [eb, e1])
    refine ⟨⟨p.1.kind, p.1.text, n⟩ :: ts, ?_, ?_⟩
    · rw [er, this, eb, e1]
      simp only [List.length_append]
      congr 2
      omega
    · simp only [sameKT, List.map_cons] at e2 ⊢
      rw [e2]

theorem sc_line (n : Nat) (x z : List UInt8) (h : ∀ b ∈ x, notNlB b = true) (h1 : ∀ d q, x ++ 10 :: z = d :: q → ¬ d.toNat = 123 ∧ letterB d = false) : sc n (37 :: (x ++ 10 :: z)) = sc (n + x.length + 1) (10 :: z) := by
  have hr : runLen notNlB (x ++ 10 :: z) = x.length := runLen_app notNlB x (10 :: z) h (fun d q e => by cases e; decide)
  have e : nx (37 :: (x ++ 10 :: z)) = ⟨0, [], x.length + 1, 0⟩ := by
    simp only [nx]
    rw [if_neg (by decide), if_pos (by decide)]
    cases hx : x ++ 10 :: z with
    | nil => simp at hx
    | cons d q =>
      obtain ⟨h2, h3⟩ := h1 d q hx
      simp only [pc]
      rw [if_neg h2, if_pos (by simp [runLen, h3]), ← hx, hr]
  rw [sc_ok _ _ _ (by rw [e]), e]
  simp only [put]
  rw [if_pos trivial, List.drop_succ_cons, List.drop_left, Nat.add_assoc]
theorem sc_block (n k : Nat) (x z : List UInt8) (h : ∀ y, cmt 1 (x ++ y) = some y) (hk : k = x.length + 2) : sc n (37 :: 123 :: (x ++ z)) = sc (n + k) z := by
  have e : nx (37 :: 123 :: (x ++ z)) = ⟨0, [], k, 0⟩ := by
    simp only [nx]
    rw [if_neg (by decide), if_pos (by decide)]
    simp only [pc]
    rw [if_pos (by decide), h z]
    simp
    omega
  rw [sc_ok _ _ _ (by rw [e]), e]
  simp only [put]
  rw [if_pos trivial, hk]
  simp

def gaps : List (List UInt8) := [[32], [10], [9, 32], [32, 37, 32, 99, 32, 125, 37, 32, 37, 123, 10], [32, 37, 123, 125, 37, 32], [32, 37, 123, 32, 97, 46, 32, 37, 123, 32, 98, 32, 125, 37, 32, 58, 32, 125, 37, 32], [13, 10], [32, 37, 37, 10]]
theorem gaps_ok : ∀ g ∈ gaps, gapOk g := by
  intro g hg
  simp only [gaps, List.mem_cons, List.not_mem_nil, or_false] at hg
  rcases hg with rfl | rfl | rfl | rfl | rfl | rfl | rfl | rfl
  · exact ⟨⟨32, [], rfl, by decide⟩, fun n z => sc_blank _ _ _ (by decide)⟩
  · exact ⟨⟨10, [], rfl, by decide⟩, fun n z => sc_blank _ _ _ (by decide)⟩
  · exact ⟨⟨9, _, rfl, by decide⟩, fun n z => (sc_blank _ _ _ (by decide)).trans (sc_blank _ _ _ (by decide))⟩
  · refine ⟨⟨32, _, rfl, by decide⟩, fun n z => (sc_blank _ _ _ (by decide)).trans ((sc_line (n + 1) [32, 99, 32, 125, 37, 32, 37, 123] z (by decide) (fun d q e => by cases e; decide)).trans (sc_blank _ _ _ (by decide)))⟩
  · refine ⟨⟨32, _, rfl, by decide⟩, fun n z => (sc_blank _ _ _ (by decide)).trans ((sc_block (n + 1) 4 [125, 37] (32 :: z) (fun y => by simp [cmt]) rfl).trans (sc_blank _ _ _ (by decide)))⟩
  · refine ⟨⟨32, _, rfl, by decide⟩, fun n z => (sc_blank _ _ _ (by decide)).trans ((sc_block (n + 1) 18 [32, 97, 46, 32, 37, 123, 32, 98, 32, 125, 37, 32, 58, 32, 125, 37] (32 :: z) (fun y => by simp [cmt]) rfl).trans (sc_blank _ _ _ (by decide)))⟩
  · exact ⟨⟨13, _, rfl, by decide⟩, fun n z => (sc_blank _ _ _ (by decide)).trans (sc_blank _ _ _ (by decide))⟩
  · refine ⟨⟨32, _, rfl, by decide⟩, fun n z => (sc_blank _ _ _ (by decide)).trans ((sc_line (n + 1) [37] z (by decide) (fun d q e => by cases e; decide)).trans (sc_blank _ _ _ (by decide)))⟩

/-! Where tokens stand -/

def stands (s : List UInt8) : Nat → List Tok → Prop
  | _, [] => True
  | e, t :: r => e ≤ t.pos ∧ t.pos + (spT t).length ≤ s.length ∧ (s.drop t.pos).take (spT t).length = spT t ∧ 1 ≤ (spT t).length ∧ stands s (t.pos + (spT t).length) r
theorem sc_stands (s : List UInt8) : ∀ l n e, n ≤ s.length → l = s.drop n → e ≤ n → stands s e (sc n l).1 := by
  intro l
  induction l using item_induct with
  | h0 => intro n e _ _ _; simp [sc_nil, stands]
  | h1 c r he => intro n e _ _ _; rw [sc_err _ _ _ he]; simp [stands]
  | h2 c r he ih =>
    intro n e hn hl hen
    have hlen := nx_len c r he
    have hs : r.length + 1 = s.length - n := by have := congrArg List.length hl; simpa using this
    have hd : (c :: r).drop (nx (c :: r)).len = s.drop (n + (nx (c :: r)).len) := by rw [hl, List.drop_drop]
    rw [sc_ok _ _ _ he]
    unfold put
    split
    · exact ih _ _ (by omega) hd (by omega)
    · rename_i hk
      split
      · obtain ⟨_, h2, _⟩ := nx_valid c r n he hk
        have hlt : (spT ⟨(nx (c :: r)).kind, (nx (c :: r)).text, n⟩).length = (nx (c :: r)).len := by rw [← h2, List.length_take, List.length_cons]; omega
        refine ⟨hen, by rw [hlt]; simp only; omega, ?_, by rw [hlt]; omega, ?_⟩
        · simp only
          rw [← hl, hlt]
          exact h2
        · rw [hlt]
          exact ih _ _ (by omega) hd (Nat.le_refl _)
      · simp [stands]

/-- How long the spelled tokens are. -/
theorem stands_len (s : List UInt8) : ∀ (ts : List Tok) (e : Nat), e ≤ s.length → stands s e ts → e + (ts.flatMap spT).length ≤ s.length := by
  intro ts
  induction ts with
  | nil => intro e he _; simpa using he
  | cons t r ih =>
    intro e _ h
    obtain ⟨h1, h2, _, _, h5⟩ := h
    have := ih _ h2 h5
    rw [List.flatMap_cons, List.length_append]
    omega
theorem spell_len (l : List Tok) : (spell l).length ≤ (l.flatMap spT).length + l.length := by
  cases l with
  | nil => simp [spell]
  | cons t r =>
    have : (r.flatMap fun u => (32 : UInt8) :: spT u).length = (r.flatMap spT).length + r.length := by
      induction r with
      | nil => rfl
      | cons u q ih => simp only [List.flatMap_cons, List.length_append, List.length_cons] at *; omega
    rw [spell, List.length_append, this, List.flatMap_cons, List.length_append, List.length_cons]
    omega
end Lfc
