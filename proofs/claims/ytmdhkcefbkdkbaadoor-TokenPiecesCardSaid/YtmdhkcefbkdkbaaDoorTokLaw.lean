/- The plain laws of the tokens of a text: joining, cutting, spelling, offsets, how many there are. -/
import Derived.Test.YtmdhkcefbkdkbaaDoorSpell
namespace Lfc

theorem item_induct (P : List UInt8 → Prop) (h0 : P []) (h1 : ∀ c r, (nx (c :: r)).err ≠ 0 → P (c :: r))
    (h2 : ∀ c r, (nx (c :: r)).err = 0 → P ((c :: r).drop (nx (c :: r)).len) → P (c :: r)) : ∀ l, P l := by
  have main : ∀ m (l : List UInt8), l.length ≤ m → P l := by
    intro m
    induction m with
    | zero => intro l hl; obtain rfl := List.eq_nil_of_length_eq_zero (by omega : l.length = 0); exact h0
    | succ m ih =>
      intro l hl
      match l, hl with
      | [], _ => exact h0
      | c :: r, hl =>
        by_cases he : (nx (c :: r)).err = 0
        · have := nx_len c r he
          refine h2 c r he (ih _ ?_)
          rw [List.length_drop, List.length_cons]
          simp only [List.length_cons] at hl
          omega
        · exact h1 c r he
  exact fun l => main _ l (Nat.le_refl _)

/-- An item ahead of what is behind it. -/
def put (x : Nx) (n : Nat) (y : List Tok × Int × Nat) : List Tok × Int × Nat :=
  if x.kind = 0 then y else if y.2.1 = 0 then (⟨x.kind, x.text, n⟩ :: y.1, y.2) else ([], y.2)

def scF : Nat → Nat → List UInt8 → List Tok × Int × Nat
  | 0, n, _ => ([], 0, n)
  | _ + 1, n, [] => ([], 0, n)
  | f + 1, n, c :: r =>
    if (nx (c :: r)).err ≠ 0 then ([], (nx (c :: r)).err, n)
    else put (nx (c :: r)) n (scF f (n + (nx (c :: r)).len) ((c :: r).drop (nx (c :: r)).len))
/-- The tokens of a text, without a limit on their number. -/
def sc (n : Nat) (l : List UInt8) : List Tok × Int × Nat := scF l.length n l

theorem scF_any : ∀ (m f g n : Nat) (l : List UInt8), l.length ≤ m → l.length ≤ f → l.length ≤ g → scF f n l = scF g n l := by
  intro m
  induction m with
  | zero =>
    intro f g n l h _ _
    obtain rfl := List.eq_nil_of_length_eq_zero (by omega : l.length = 0)
    cases f <;> cases g <;> rfl
  | succ m ih =>
    intro f g n l h hf hg
    match l, h, hf, hg with
    | [], _, _, _ => cases f <;> cases g <;> rfl
    | c :: r, h, hf, hg =>
      simp only [List.length_cons] at h hf hg
      obtain ⟨f, rfl⟩ : ∃ k, f = k + 1 := ⟨f - 1, by omega⟩
      obtain ⟨g, rfl⟩ : ∃ k, g = k + 1 := ⟨g - 1, by omega⟩
      rw [scF, scF]
      by_cases he : (nx (c :: r)).err ≠ 0
      · rw [if_pos he, if_pos he]
      · have hl := nx_len c r (by simpa using he)
        have hd : ((c :: r).drop (nx (c :: r)).len).length ≤ r.length := by rw [List.length_drop, List.length_cons]; omega
        rw [if_neg he, if_neg he, ih f g _ _ (by omega) (by omega) (by omega)]
theorem sc_nil (n : Nat) : sc n [] = ([], 0, n) := rfl
theorem sc_err (n : Nat) (c : UInt8) (r : List UInt8) (h : (nx (c :: r)).err ≠ 0) : sc n (c :: r) = ([], (nx (c :: r)).err, n) := by
  rw [sc, List.length_cons, scF, if_pos h]
theorem sc_ok (n : Nat) (c : UInt8) (r : List UInt8) (h : (nx (c :: r)).err = 0) : sc n (c :: r) = put (nx (c :: r)) n (sc (n + (nx (c :: r)).len) ((c :: r).drop (nx (c :: r)).len)) := by
  have hl := nx_len c r h
  have hd : ((c :: r).drop (nx (c :: r)).len).length ≤ r.length := by rw [List.length_drop, List.length_cons]; omega
  rw [sc, List.length_cons, scF, if_neg (by simpa using h), sc, scF_any r.length r.length _ _ _ hd hd (Nat.le_refl _)]

theorem put_snd (x : Nx) (n : Nat) (y : List Tok × Int × Nat) : (put x n y).2 = y.2 := by
  unfold put; split
  · rfl
  · split <;> rfl
theorem put_fst (x : Nx) (n : Nat) (y : List Tok × Int × Nat) (h : y.2.1 = 0) : (put x n y).1 = (if x.kind = 0 then [] else [⟨x.kind, x.text, n⟩]) ++ y.1 := by
  unfold put; split
  · rfl
  · first | rfl | (rw [if_pos h]; rfl)
theorem put_none (x : Nx) (n : Nat) (y : List Tok × Int × Nat) (h : y.2.1 ≠ 0) (h1 : y.1 = []) : put x n y = y := by
  unfold put; split
  · rfl
  · first | exact Prod.ext h1.symm rfl | (rw [if_neg h]; exact Prod.ext h1.symm rfl)

/-- With an error there are no tokens. -/
theorem sc_none (l : List UInt8) : ∀ n, (sc n l).2.1 ≠ 0 → (sc n l).1 = [] := by
  induction l using item_induct with
  | h0 => intro n _; rfl
  | h1 c r he => intro n _; rw [sc_err _ _ _ he]
  | h2 c r he ih =>
    intro n h
    rw [sc_ok _ _ _ he] at h ⊢
    rw [put_snd] at h
    rw [put_none _ _ _ h (ih _ h)]
    exact ih _ h
/-- Without an error the number is that of the end. -/
theorem sc_end (l : List UInt8) : ∀ n, (sc n l).2.1 = 0 → (sc n l).2.2 = n + l.length := by
  induction l using item_induct with
  | h0 => intro n _; rfl
  | h1 c r he => intro n h; rw [sc_err _ _ _ he] at h; exact absurd h he
  | h2 c r he ih =>
    intro n h
    rw [sc_ok _ _ _ he] at h ⊢
    rw [put_snd] at h ⊢
    have hl := nx_len c r he
    rw [ih _ h, List.length_drop, List.length_cons]
    omega
theorem sc_at_lt (l : List UInt8) : ∀ n, (sc n l).2.1 ≠ 0 → n ≤ (sc n l).2.2 ∧ (sc n l).2.2 < n + l.length := by
  induction l using item_induct with
  | h0 => intro n h; exact absurd rfl h
  | h1 c r he => intro n _; rw [sc_err _ _ _ he]; simp
  | h2 c r he ih =>
    intro n h
    rw [sc_ok _ _ _ he] at h ⊢
    rw [put_snd] at h ⊢
    have hl := nx_len c r he
    have := ih _ h
    rw [List.length_drop, List.length_cons] at this
    rw [List.length_cons]
    omega

/-! How many tokens there are -/

/-- The places that are not between two letters. -/
def brk : Bool → List UInt8 → Nat
  | _, [] => 0
  | p, c :: r => (if p && letterB c then 0 else 1) + brk (letterB c) r
theorem brk_le (p : Bool) (l : List UInt8) : brk p l ≤ brk false l ∧ brk false l ≤ brk p l + 1 := by
  cases l with
  | nil => simp [brk]
  | cons c r => simp only [brk]; cases p <;> cases letterB c <;> simp <;> omega
theorem brk_app (a b : List UInt8) : ∀ p, brk p (a ++ b) ≤ brk p a + brk false b := by
  induction a with
  | nil => intro p; simp only [List.nil_append, brk]; have := (brk_le p b).1; omega
  | cons c r ih => intro p; simp only [List.cons_append, brk]; have := ih (letterB c); omega
/-- A part of at least one byte has at least one such place; the rest has its own, if a letter does not go on. -/
theorem brk_drop : ∀ (m : Nat) (c : UInt8) (r : List UInt8) (p : Bool), m ≤ r.length → (if p && letterB c then 0 else 1) + brk (letterB ((c :: r).getD m 0)) (r.drop m) ≤ brk p (c :: r) := by
  intro m
  induction m with
  | zero => intro c r p _; simp [brk]
  | succ m ih =>
    intro c r p h
    match r, h with
    | b :: q, h =>
      have := ih b q (letterB c) (by simpa using h)
      simp only [List.drop_succ_cons, brk] at this ⊢
      simp only [List.getD_cons_succ] at this ⊢
      split at this <;> omega

/-! Which tokens there are -/

theorem runLen_take (p : UInt8 → Bool) (l : List UInt8) : ∀ b ∈ l.take (runLen p l), p b = true := by
  induction l with
  | nil => intro b hb; simp at hb
  | cons c r ih =>
    intro b hb
    rw [runLen] at hb
    split at hb
    · rename_i hc
      rw [List.take_succ_cons] at hb
      rcases List.mem_cons.1 hb with rfl | hb
      · exact hc
      · exact ih b hb
    · simp at hb
theorem runLen_stop (p : UInt8 → Bool) (l : List UInt8) : ∀ d q, l.drop (runLen p l) = d :: q → p d = false := by
  induction l with
  | nil => intro d q h; simp at h
  | cons c r ih =>
    intro d q h
    rw [runLen] at h
    split at h
    · rw [List.drop_succ_cons] at h; exact ih d q h
    · rename_i hc
      rw [List.drop_zero] at h
      cases h
      simpa using hc
theorem runLen_app (p : UInt8 → Bool) (a b : List UInt8) (ha : ∀ x ∈ a, p x = true) (hb : ∀ d q, b = d :: q → p d = false) : runLen p (a ++ b) = a.length := by
  induction a with
  | nil =>
    cases b with
    | nil => rfl
    | cons d q => rw [List.nil_append, runLen, if_neg (by rw [hb d q rfl]; simp)]; rfl
  | cons c r ih =>
    rw [List.cons_append, runLen, if_pos (ha c (List.mem_cons_self)), ih fun x hx => ha x (List.mem_cons_of_mem _ hx)]
    rfl

/-- The tokens that there are. -/
def valid (t : Tok) : Prop :=
  ((t.kind = if reservedB t.text then 2 else 1) ∧ t.text ≠ [] ∧ t.text.length ≤ 64 ∧ ∀ b ∈ t.text, nameB b = true) ∨
  (t.kind = 2 ∧ ∃ c, specialB c = true ∧ t.text = [c]) ∨
  (t.kind = 3 ∧ t.text ≠ [] ∧ t.text.length ≤ 64 ∧ ∀ b ∈ t.text, letterB b = true)

theorem nx_tok (c : UInt8) (r : List UInt8) (he : (nx (c :: r)).err = 0) (hk : (nx (c :: r)).kind ≠ 0) :
    (nameB c = true ∧ runLen nameB (c :: r) ≤ 64 ∧ nx (c :: r) = ⟨if reservedB ((c :: r).take (runLen nameB (c :: r))) then 2 else 1, (c :: r).take (runLen nameB (c :: r)), runLen nameB (c :: r), 0⟩) ∨
    (specialB c = true ∧ nx (c :: r) = ⟨2, [c], 1, 0⟩) ∨
    (c.toNat = 37 ∧ 1 ≤ runLen letterB r ∧ runLen letterB r ≤ 64 ∧ nx (c :: r) = ⟨3, r.take (runLen letterB r), runLen letterB r + 1, 0⟩) := by
  cases hb : blankB c
  · by_cases h37 : c.toNat = 37
    · have e : nx (c :: r) = pc r := by simp only [nx]; rw [hb, if_neg (by simp), if_pos h37]
      rw [e] at he hk ⊢
      refine .inr (.inr ⟨h37, ?_⟩)
      match r with
      | [] => simp [pc] at hk
      | b :: r' =>
        simp only [pc] at he hk ⊢
        by_cases h123 : b.toNat = 123
        · rw [if_pos h123] at hk
          split at hk <;> simp at hk
        · rw [if_neg h123] at he hk ⊢
          by_cases h0 : runLen letterB (b :: r') = 0
          · rw [if_pos h0] at hk; simp at hk
          · rw [if_neg h0] at he hk ⊢
            by_cases h64 : 64 < runLen letterB (b :: r')
            · rw [if_pos h64] at he; simp at he
            · rw [if_neg h64]; exact ⟨by omega, by omega, rfl⟩
    · cases hn : nameB c
      · cases hs : specialB c
        · have e : nx (c :: r) = ⟨0, [], 0, 10⟩ := by simp only [nx]; rw [hb, if_neg (by simp), if_neg h37, hn, if_neg (by simp), hs, if_neg (by simp)]
          rw [e] at he; simp at he
        · exact .inr (.inl ⟨rfl, by simp only [nx]; rw [hb, if_neg (by simp), if_neg h37, hn, if_neg (by simp), hs, if_pos rfl]⟩)
      · have e : nx (c :: r) = nm ((c :: r).take (runLen nameB (c :: r))) := by simp only [nx]; rw [hb, if_neg (by simp), if_neg h37, hn, if_pos rfl]
        have hl : ((c :: r).take (runLen nameB (c :: r))).length = runLen nameB (c :: r) := by have := runLen_le nameB (c :: r); rw [List.length_take]; omega
        rw [e] at he ⊢
        refine .inl ⟨rfl, ?_⟩
        unfold nm at he ⊢
        rw [hl] at he ⊢
        by_cases h64 : 64 < runLen nameB (c :: r)
        · rw [if_pos h64] at he; simp at he
        · rw [if_neg h64]; exact ⟨by omega, rfl⟩
  · have e : nx (c :: r) = ⟨0, [], 1, 0⟩ := by simp only [nx]; rw [hb, if_pos rfl]
    rw [e] at hk; simp at hk

theorem letter_name (c : UInt8) (h : letterB c = true) : nameB c = true := by
  have := of_decide_eq_true h
  exact decide_eq_true (by omega)
theorem special_not (c : UInt8) (h : specialB c = true) : letterB c = false := by
  have := of_decide_eq_true h
  exact decide_eq_false (by omega)

/-- A token is valid, stands there, and a letter does not go on behind a letter. -/
theorem nx_valid (c : UInt8) (r : List UInt8) (n : Nat) (he : (nx (c :: r)).err = 0) (hk : (nx (c :: r)).kind ≠ 0) :
    valid ⟨(nx (c :: r)).kind, (nx (c :: r)).text, n⟩ ∧ (c :: r).take (nx (c :: r)).len = spT ⟨(nx (c :: r)).kind, (nx (c :: r)).text, n⟩ ∧
    (∀ d q, (c :: r).drop (nx (c :: r)).len = d :: q → (letterB ((c :: r).getD ((nx (c :: r)).len - 1) 0) && letterB d) = false) := by
  rcases nx_tok c r he hk with ⟨hn, h64, e⟩ | ⟨hs, e⟩ | ⟨h37, h1, h64, e⟩
  · rw [e]
    have hle := runLen_le nameB (c :: r)
    have hpos : 1 ≤ runLen nameB (c :: r) := by rw [runLen, if_pos hn]; omega
    have hl : ((c :: r).take (runLen nameB (c :: r))).length = runLen nameB (c :: r) := by rw [List.length_take]; omega
    refine ⟨.inl ⟨rfl, ?_, by rw [hl]; exact h64, runLen_take nameB (c :: r)⟩, ?_, ?_⟩
    · intro h0
      have := congrArg List.length h0
      rw [hl] at this
      simp at this
      omega
    · simp only [spT]
      rw [if_neg (by split <;> decide)]
    · intro d q hd
      have := runLen_stop nameB (c :: r) d q hd
      have hl : letterB d = false := by
        cases hh : letterB d
        · rfl
        · rw [letter_name d hh] at this; cases this
      rw [hl, Bool.and_false]
  · rw [e]
    refine ⟨.inr (.inl ⟨rfl, c, hs, rfl⟩), rfl, ?_⟩
    intro d q _
    have := special_not c hs
    simp [this]
  · rw [e]
    have hle := runLen_le letterB r
    have hl : (r.take (runLen letterB r)).length = runLen letterB r := by rw [List.length_take]; omega
    refine ⟨.inr (.inr ⟨rfl, ?_, by rw [hl]; exact h64, runLen_take letterB r⟩), ?_, ?_⟩
    · intro h0
      have := congrArg List.length h0
      rw [hl] at this
      simp at this
      omega
    · simp only [spT, List.take_succ_cons]
      rw [if_pos trivial, show c = 37 from UInt8.toNat_inj.1 h37]
    · intro d q hd
      rw [List.drop_succ_cons] at hd
      rw [runLen_stop letterB r d q hd, Bool.and_false]

/-- A text has at most as many tokens as places that are not between two letters. -/
theorem sc_count (l : List UInt8) : ∀ n, (sc n l).1.length ≤ brk false l := by
  induction l using item_induct with
  | h0 => intro n; simp [sc_nil]
  | h1 c r he => intro n; rw [sc_err _ _ _ he]; simp
  | h2 c r he ih =>
    intro n
    rw [sc_ok _ _ _ he]
    have hl := nx_len c r he
    obtain ⟨m, hm⟩ : ∃ m, (nx (c :: r)).len = m + 1 := ⟨(nx (c :: r)).len - 1, by omega⟩
    have hi := ih (n + (nx (c :: r)).len)
    have hb := brk_drop m c r false (by omega)
    have hd : (c :: r).drop (nx (c :: r)).len = r.drop m := by rw [hm, List.drop_succ_cons]
    rw [hd] at hi ⊢
    simp only [Bool.false_and, Bool.false_eq_true, if_false] at hb
    have h1 := (brk_le (letterB ((c :: r).getD m 0)) (r.drop m)).2
    unfold put
    split
    · omega
    · rename_i hk
      have hmax := (nx_valid c r n he hk).2.2
      have h2 : brk false (r.drop m) ≤ brk (letterB ((c :: r).getD m 0)) (r.drop m) := by
        rw [hm, List.drop_succ_cons] at hmax
        cases hq : r.drop m with
        | nil => simp [brk]
        | cons d q =>
          have := hmax d q hq
          simp only [Nat.add_sub_cancel] at this
          simp only [brk, this]
          simp
      split
      · simp; omega
      · simp

/-- The limit on the number of tokens does not matter where there are few. -/
theorem lexR_sc (l : List UInt8) : ∀ n acc, acc.length + brk false l ≤ 20000 → lexR n l acc = if (sc n l).2.1 = 0 then (acc ++ (sc n l).1, (sc n l).2) else ([], (sc n l).2) := by
  induction l using item_induct with
  | h0 => intro n acc _; rw [lexR_nil, sc_nil]; simp
  | h1 c r he => intro n acc _; rw [lexR_cons, if_pos he, sc_err _ _ _ he]; simp [he]
  | h2 c r he ih =>
    intro n acc hacc
    have hl := nx_len c r he
    obtain ⟨m, hm⟩ : ∃ m, (nx (c :: r)).len = m + 1 := ⟨(nx (c :: r)).len - 1, by omega⟩
    have hb := brk_drop m c r false (by omega)
    have hd : (c :: r).drop (nx (c :: r)).len = r.drop m := by rw [hm, List.drop_succ_cons]
    have h1 := (brk_le (letterB ((c :: r).getD m 0)) (r.drop m)).2
    simp only [Bool.false_and, Bool.false_eq_true, if_false] at hb
    rw [lexR_cons, if_neg (by simpa using he), sc_ok _ _ _ he, put_snd]
    by_cases hk : (nx (c :: r)).kind = 0
    · rw [if_pos hk, ih _ acc (by rw [hd]; omega)]
      have : ∀ y, put (nx (c :: r)) n y = y := fun y => by unfold put; rw [if_pos hk]
      rw [this]
    · have hmax := (nx_valid c r n he hk).2.2
      have h2 : brk false (r.drop m) ≤ brk (letterB ((c :: r).getD m 0)) (r.drop m) := by
        rw [hm, List.drop_succ_cons] at hmax
        cases hq : r.drop m with
        | nil => simp [brk]
        | cons d q =>
          have := hmax d q hq
          simp only [Nat.add_sub_cancel] at this
          simp only [brk, this]
          simp
      rw [if_neg hk, if_neg (by omega), ih _ _ (by rw [hd, List.length_append]; simp; omega)]
      split
      · rename_i h0
        rw [put_fst _ _ _ h0, if_neg hk]
        simp
      · rfl
end Lfc
