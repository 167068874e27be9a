/- The plain model of the tokens of a text (layer 1): what next, comment, Lex, Spell, IsName compute on lists of bytes. No program in sight. -/
namespace Lfc

def blankB (c : UInt8) : Bool := decide (c.toNat = 32 ∨ c.toNat = 9 ∨ c.toNat = 10 ∨ c.toNat = 13)
def letterB (c : UInt8) : Bool := decide (97 ≤ c.toNat ∧ c.toNat ≤ 122)
def specialB (c : UInt8) : Bool := decide (c.toNat = 40 ∨ c.toNat = 41 ∨ c.toNat = 91 ∨ c.toNat = 93 ∨ c.toNat = 123 ∨ c.toNat = 125 ∨ c.toNat = 58 ∨ c.toNat = 46)
def nameB (c : UInt8) : Bool := decide ((33 ≤ c.toNat ∧ c.toNat ≤ 126) ∧ ¬ (c.toNat = 40 ∨ c.toNat = 41 ∨ c.toNat = 91 ∨ c.toNat = 93 ∨ c.toNat = 123 ∨ c.toNat = 125 ∨ c.toNat = 58 ∨ c.toNat = 46) ∧ ¬ c.toNat = 37)
def notNlB (c : UInt8) : Bool := decide (¬ c.toNat = 10)
def reservedB (l : List UInt8) : Bool := l == [45, 62] || l == [60, 45] || l == [61] || l == [95] || l == [116, 121, 112, 101]

/-- The length of the longest beginning whose bytes are all of a class. -/
def runLen (p : UInt8 → Bool) : List UInt8 → Nat
  | [] => 0
  | c :: r => if p c then runLen p r + 1 else 0

/-- What is left behind the end of d open comments. -/
def cmt : Nat → List UInt8 → Option (List UInt8)
  | d, a :: b :: r =>
    if a.toNat = 37 ∧ b.toNat = 123 then cmt (d + 1) r
    else if a.toNat = 125 ∧ b.toNat = 37 then (if d ≤ 1 then some r else cmt (d - 1) r)
    else cmt d (b :: r)
  | _, _ => none

structure Nx where
  kind : Int
  text : List UInt8
  len : Nat
  err : Int

/-- What a percent sign begins. -/
def pc (r : List UInt8) : Nx :=
  match r with
  | [] => ⟨0, [], 1, 0⟩
  | b :: r' =>
    if b.toNat = 123 then
      match cmt 1 r' with
      | some rest => ⟨0, [], 2 + r'.length - rest.length, 0⟩
      | none => ⟨0, [], 0, 11⟩
    else if runLen letterB (b :: r') = 0 then ⟨0, [], runLen notNlB (b :: r') + 1, 0⟩
    else if 64 < runLen letterB (b :: r') then ⟨0, [], 0, 12⟩
    else ⟨3, (b :: r').take (runLen letterB (b :: r')), runLen letterB (b :: r') + 1, 0⟩

/-- The token of a word. -/
def nm (word : List UInt8) : Nx :=
  if 64 < word.length then ⟨0, [], 0, 12⟩ else ⟨if reservedB word then 2 else 1, word, word.length, 0⟩

/-- What begins with the first byte: a token (its kind is not 0), a blank or a comment (kind 0), or an error. -/
def nx : List UInt8 → Nx
  | [] => ⟨0, [], 0, 10⟩
  | c :: r =>
    if blankB c then ⟨0, [], 1, 0⟩
    else if c.toNat = 37 then pc r
    else if nameB c then nm ((c :: r).take (runLen nameB (c :: r)))
    else if specialB c then ⟨2, [c], 1, 0⟩
    else ⟨0, [], 0, 10⟩

structure Tok where
  kind : Int
  text : List UInt8
  pos : Nat

/-- The tokens of what is left, from an offset on, behind those that are there already. -/
def lexF : Nat → Nat → List UInt8 → List Tok → List Tok × Int × Nat
  | 0, n, _, acc => (acc, 0, n)
  | _ + 1, n, [], acc => (acc, 0, n)
  | f + 1, n, c :: r, acc =>
    if (nx (c :: r)).err ≠ 0 then ([], (nx (c :: r)).err, n)
    else if (nx (c :: r)).kind = 0 then lexF f (n + (nx (c :: r)).len) ((c :: r).drop (nx (c :: r)).len) acc
    else if acc.length = 20000 then ([], 7, n)
    else lexF f (n + (nx (c :: r)).len) ((c :: r).drop (nx (c :: r)).len) (acc ++ [⟨(nx (c :: r)).kind, (nx (c :: r)).text, n⟩])

def lex (l : List UInt8) : List Tok × Int × Nat := if 65536 < l.length then ([], 12, 0) else lexF l.length 0 l []

def isName (l : List UInt8) : Bool := decide (¬ l = []) && decide (l.length ≤ 64) && decide (runLen nameB l = l.length) && !reservedB l && decide (¬ (l.headD 0).toNat = 64)
def isFree (l : List UInt8) : Bool := isName l && decide ((65 ≤ (l.headD 0).toNat ∧ (l.headD 0).toNat ≤ 90) ∨ (l.headD 0).toNat = 95)

theorem runLen_le (p : UInt8 → Bool) (l : List UInt8) : runLen p l ≤ l.length := by
  induction l with
  | nil => simp [runLen]
  | cons c r ih => simp only [runLen, List.length_cons]; split <;> omega

theorem cmt_len : ∀ (n : Nat) (l : List UInt8), l.length ≤ n → ∀ (d : Nat) (r : List UInt8), cmt d l = some r → r.length + 2 ≤ l.length := by
  intro n
  induction n with
  | zero => intro l hl d r h; obtain rfl := List.eq_nil_of_length_eq_zero (by omega : l.length = 0); simp [cmt] at h
  | succ n ih =>
    intro l hl d r h
    match l, hl, h with
    | [], _, h => simp [cmt] at h
    | [a], _, h => simp [cmt] at h
    | a :: b :: t, hl, h =>
      simp only [List.length_cons] at hl ⊢
      rw [cmt] at h
      split at h
      · have := ih t (by omega) _ _ h; omega
      · split at h
        · split at h
          · cases h; omega
          · have := ih t (by omega) _ _ h; omega
        · have := ih (b :: t) (by simp; omega) _ _ h; simp at this; omega

/-- An item that is no error has a length from 1 to that of what is left. -/
theorem nx_len (c : UInt8) (r : List UInt8) (h : (nx (c :: r)).err = 0) : 1 ≤ (nx (c :: r)).len ∧ (nx (c :: r)).len ≤ r.length + 1 := by
  simp only [nx] at h ⊢
  split
  · simp
  · rename_i hb
    rw [if_neg hb] at h
    split
    · rename_i h37
      rw [if_pos h37] at h
      unfold pc at h ⊢
      match r, h with
      | [], h => simp
      | b :: r', h =>
        simp only at h ⊢
        split
        · rename_i h123
          rw [if_pos h123] at h
          cases hc : cmt 1 r' with
          | none => rw [hc] at h; simp at h
          | some t => have := cmt_len _ r' (Nat.le_refl _) _ _ hc; simp; omega
        · rename_i h123
          rw [if_neg h123] at h
          split
          · have := runLen_le notNlB (b :: r'); simp at this ⊢; omega
          · rename_i hl
            rw [if_neg hl] at h
            split
            · rename_i h64; rw [if_pos h64] at h; simp at h
            · have := runLen_le letterB (b :: r'); simp at this ⊢; omega
    · rename_i h37
      rw [if_neg h37] at h
      split
      · rename_i hn
        rw [if_pos hn] at h
        have h1 := runLen_le nameB (c :: r)
        have h2 : 1 ≤ runLen nameB (c :: r) := by rw [runLen, if_pos hn]; omega
        simp only [List.length_cons] at h1
        have h3 : ((c :: r).take (runLen nameB (c :: r))).length = runLen nameB (c :: r) := by rw [List.length_take, List.length_cons]; omega
        unfold nm at h ⊢
        split
        · rename_i h64; rw [if_pos h64] at h; simp at h
        · simp only [h3]; omega
      · rename_i hn
        rw [if_neg hn] at h
        split
        · simp
        · rename_i hs; rw [if_neg hs] at h; simp at h

/-- The tokens of what is left (lexF with enough fuel). -/
def lexR (n : Nat) (l : List UInt8) (acc : List Tok) : List Tok × Int × Nat := lexF l.length n l acc

theorem lexF_any : ∀ (m f g n : Nat) (l : List UInt8) (acc : List Tok), l.length ≤ m → l.length ≤ f → l.length ≤ g → lexF f n l acc = lexF g n l acc := by
  intro m
  induction m with
  | zero =>
    intro f g n l acc h _ _
    obtain rfl := List.eq_nil_of_length_eq_zero (by omega : l.length = 0)
    cases f <;> cases g <;> rfl
  | succ m ih =>
    intro f g n l acc h hf hg
    match l, h, hf, hg with
    | [], _, _, _ => cases f <;> cases g <;> rfl
    | c :: r, h, hf, hg =>
      simp only [List.length_cons] at h hf hg
      obtain ⟨f, rfl⟩ : ∃ k, f = k + 1 := ⟨f - 1, by omega⟩
      obtain ⟨g, rfl⟩ : ∃ k, g = k + 1 := ⟨g - 1, by omega⟩
      rw [lexF, lexF]
      by_cases he : (nx (c :: r)).err ≠ 0
      · rw [if_pos he, if_pos he]
      · have hl := nx_len c r (by simpa using he)
        have hd : ((c :: r).drop (nx (c :: r)).len).length ≤ r.length := by rw [List.length_drop, List.length_cons]; omega
        rw [if_neg he, if_neg he, ih f g _ _ acc (by omega) (by omega) (by omega), ih f g _ _ (acc ++ _) (by omega) (by omega) (by omega)]

theorem lexR_nil (n : Nat) (acc : List Tok) : lexR n [] acc = (acc, 0, n) := rfl
theorem lexR_cons (n : Nat) (c : UInt8) (r : List UInt8) (acc : List Tok) : lexR n (c :: r) acc =
    if (nx (c :: r)).err ≠ 0 then ([], (nx (c :: r)).err, n)
    else if (nx (c :: r)).kind = 0 then lexR (n + (nx (c :: r)).len) ((c :: r).drop (nx (c :: r)).len) acc
    else if acc.length = 20000 then ([], 7, n)
    else lexR (n + (nx (c :: r)).len) ((c :: r).drop (nx (c :: r)).len) (acc ++ [⟨(nx (c :: r)).kind, (nx (c :: r)).text, n⟩]) := by
  rw [lexR, List.length_cons, lexF]
  by_cases he : (nx (c :: r)).err ≠ 0
  · rw [if_pos he, if_pos he]
  · have hl := nx_len c r (by simpa using he)
    have hd : ((c :: r).drop (nx (c :: r)).len).length ≤ r.length := by rw [List.length_drop, List.length_cons]; omega
    rw [if_neg he, if_neg he, lexR, lexR, lexF_any r.length r.length _ _ _ acc hd hd (Nat.le_refl _), lexF_any r.length r.length _ _ _ (acc ++ _) hd hd (Nat.le_refl _)]
theorem lex_eq (l : List UInt8) : lex l = if 65536 < l.length then ([], 12, 0) else lexR 0 l [] := rfl

/-- The pieces of the texts that the statements draw. -/
def pieces : List (List UInt8) := [[97], [78], [116, 121, 112, 101], [45, 62], [60, 45], [61], [95], [95, 120], [40], [41], [91], [93], [123], [125], [58], [46], [32], [10], [9], [37, 32, 99], [37], [37, 123], [125, 37], [37, 109, 111, 100, 101], [37, 37], [64, 99], [97, 45, 62, 98], [0], [127], [195, 169], [43], [97, 97, 97, 97, 97, 97, 97, 97, 97, 97, 97, 97, 97, 97, 97, 97, 97, 97, 97, 97, 97, 97, 97, 97, 97, 97, 97, 97, 97, 97, 97, 97, 97, 97, 97, 97, 97, 97, 97, 97, 97, 97, 97, 97, 97, 97, 97, 97, 97, 97, 97, 97, 97, 97, 97, 97, 97, 97, 97, 97, 97, 97, 97, 97]]
theorem pieces_len (q : Nat) : (pieces.getD q []).length ≤ 64 := by
  have h : ∀ p ∈ pieces, p.length ≤ 64 := by decide
  rw [List.getD_eq_getElem?_getD]
  cases e : pieces[q]? with
  | none => simp
  | some p => exact h p (List.mem_of_getElem? e)
def textOf (ks : List Nat) : List UInt8 := ks.flatMap fun k => pieces.getD k []
end Lfc
