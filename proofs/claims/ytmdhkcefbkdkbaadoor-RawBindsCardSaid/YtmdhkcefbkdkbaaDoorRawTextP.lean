/- Two well-formed trees have the same text just if they are the same. No program in sight. -/
import Derived.Test.YtmdhkcefbkdkbaaDoorRawText
set_option linter.unusedVariables false
set_option linter.unusedSimpArgs false
namespace Lfc

theorem run_all (p : UInt8 → Bool) : ∀ l : List UInt8, runLen p l = l.length → ∀ c ∈ l, p c = true
  | [], _, c, h => by cases h
  | a :: r, h, c, hc => by
    simp only [runLen, List.length_cons] at h
    split at h
    · rename_i ha
      rcases List.mem_cons.1 hc with rfl | hc
      · exact ha
      · exact run_all p r (by omega) c hc
    · omega
theorem name_all {n : List UInt8} (h : isName n = true) : ∀ c ∈ n, nameB c = true := by
  unfold isName at h
  simp only [Bool.and_eq_true, decide_eq_true_eq] at h
  exact run_all _ n h.1.1.2
theorem name_ne {n : List UInt8} (h : isName n = true) : n ≠ [] := by
  unfold isName at h
  simp only [Bool.and_eq_true, decide_eq_true_eq] at h
  exact h.1.1.1.1
theorem name_res {n : List UInt8} (h : isName n = true) : reservedB n = false := by
  unfold isName at h
  simp only [Bool.and_eq_true, decide_eq_true_eq, Bool.not_eq_true'] at h
  exact h.1.2
theorem name_at {n : List UInt8} (h : isName n = true) : ¬ (n.headD 0).toNat = 64 := by
  unfold isName at h
  simp only [Bool.and_eq_true, decide_eq_true_eq] at h
  exact h.2

/-- No byte of a name comes next. -/
def Stop (s : List UInt8) : Prop := ∀ c r, s = c :: r → nameB c = false
theorem stop_cons {c : UInt8} (r : List UInt8) (h : nameB c = false) : Stop (c :: r) := fun c' r' e => by cases e; exact h
theorem stop_nil : Stop [] := fun c r e => by cases e
theorem word_split : ∀ (w w' s t : List UInt8), (∀ c ∈ w, nameB c = true) → (∀ c ∈ w', nameB c = true) → Stop s → Stop t → w ++ s = w' ++ t → w = w' ∧ s = t
  | [], [], s, t, _, _, _, _, h => ⟨rfl, h⟩
  | [], c :: r, s, t, _, hw', hs, _, h => by
    have := hs c (r ++ t) h
    rw [hw' c List.mem_cons_self] at this; cases this
  | c :: r, [], s, t, hw, _, _, ht, h => by
    have := ht c (r ++ s) h.symm
    rw [hw c List.mem_cons_self] at this; cases this
  | c :: r, c' :: r', s, t, hw, hw', hs, ht, h => by
    simp only [List.cons_append, List.cons.injEq] at h
    obtain ⟨rfl, h⟩ := h
    obtain ⟨rfl, h'⟩ := word_split r r' s t (fun x hx => hw x (List.mem_cons_of_mem _ hx)) (fun x hx => hw' x (List.mem_cons_of_mem _ hx)) hs ht h
    exact ⟨rfl, h'⟩

def wordOf (k : Int) (n : List UInt8) : List UInt8 := if k = 1 then n else if k = 2 then 64 :: n else if k = 3 then [95] else [116, 121, 112, 101]
def midOf (k : Int) : List UInt8 := if k = 5 then [32] else if k = 6 then [32, 45, 62, 32] else [32, 58, 32]
def opOf (k : Int) : UInt8 := if k = 7 then 123 else 91
def clOf (k : Int) : UInt8 := if k = 7 then 125 else 93

/-- The four shapes of a well-formed node. -/
theorem shapes {k p : Int} {n : List UInt8} {ts : List Raw} (h : (Raw.node k n p ts).form = true) :
    ((k = 1 ∨ k = 2 ∨ k = 3 ∨ k = 4) ∧ ts = [] ∧ ((k = 1 ∨ k = 2) → isName n = true) ∧ ((k = 3 ∨ k = 4) → n = []) ∧ Raw.text [] (.node k n p ts) = wordOf k n) ∨
    ((k = 5 ∨ k = 6 ∨ k = 9) ∧ n = [] ∧ ∃ x y, ts = [x, y] ∧ x.form = true ∧ y.form = true ∧ Raw.text [] (.node k n p ts) = 40 :: (Raw.text [] x ++ (midOf k ++ (Raw.text [] y ++ [41])))) ∨
    ((k = 7 ∨ k = 8) ∧ (isName n = true ∨ n = [95]) ∧ ∃ x, ts = [x] ∧ x.form = true ∧ Raw.text [] (.node k n p ts) = 40 :: opOf k :: (n ++ (clOf k :: 32 :: (Raw.text [] x ++ [41])))) ∨
    ((k = 7 ∨ k = 8) ∧ (isName n = true ∨ n = [95]) ∧ ∃ x y, ts = [x, y] ∧ x.form = true ∧ y.form = true ∧ Raw.text [] (.node k n p ts) = 40 :: opOf k :: (n ++ (58 :: (Raw.text [] x ++ (clOf k :: 32 :: (Raw.text [] y ++ [41])))))) := by
  rw [Raw.form, Bool.and_eq_true] at h
  obtain ⟨hf, hs⟩ := h
  unfold formed at hf
  split at hf
  · rename_i hk
    simp only [Bool.and_eq_true, decide_eq_true_eq] at hf
    obtain rfl := List.length_eq_zero_iff.1 hf.2
    refine .inl ⟨by omega, rfl, fun _ => hf.1, fun h => by omega, ?_⟩
    rcases hk with rfl | rfl <;> simp [Raw.text, putText, wordOf]
  split at hf
  · rename_i hk
    simp only [Bool.and_eq_true, decide_eq_true_eq] at hf
    obtain ⟨rfl, h2⟩ := hf
    obtain rfl := List.length_eq_zero_iff.1 h2
    refine .inl ⟨by omega, rfl, fun h => by omega, fun _ => rfl, ?_⟩
    rcases hk with rfl | rfl <;> simp [Raw.text, putText, wordOf]
  split at hf
  · rename_i hk
    simp only [Bool.and_eq_true, decide_eq_true_eq] at hf
    obtain ⟨rfl, h2⟩ := hf
    match ts, h2 with
    | [x, y], _ =>
      simp only [Raw.forms, Bool.and_true, Bool.and_eq_true] at hs
      refine .inr (.inl ⟨hk, rfl, x, y, rfl, hs.1, hs.2, ?_⟩)
      rcases hk with rfl | rfl | rfl <;> simp [Raw.text, Raw.texts, putText, twoText, midOf]
  split at hf
  · rename_i hk
    simp only [Bool.and_eq_true, Bool.or_eq_true, decide_eq_true_eq] at hf
    obtain ⟨h1, h2⟩ := hf
    match ts, h2 with
    | [x], _ =>
      simp only [Raw.forms, Bool.and_true] at hs
      refine .inr (.inr (.inl ⟨hk, h1, x, rfl, hs, ?_⟩))
      rcases hk with rfl | rfl <;> simp [Raw.text, Raw.texts, putText, bindText, opOf, clOf]
    | [x, y], _ =>
      simp only [Raw.forms, Bool.and_true, Bool.and_eq_true] at hs
      refine .inr (.inr (.inr ⟨hk, h1, x, y, rfl, hs.1, hs.2, ?_⟩))
      rcases hk with rfl | rfl <;> simp [Raw.text, Raw.texts, putText, bindText, opOf, clOf]
    | [], h => simp at h
    | _ :: _ :: _ :: _, h => simp at h
  · cases hf

theorem word_names {k : Int} {n : List UInt8} (hk : k = 1 ∨ k = 2 ∨ k = 3 ∨ k = 4) (hn : (k = 1 ∨ k = 2) → isName n = true) : (∀ c ∈ wordOf k n, nameB c = true) ∧ wordOf k n ≠ [] := by
  rcases hk with rfl | rfl | rfl | rfl
  · have h := hn (.inl rfl)
    exact ⟨name_all h, name_ne h⟩
  · have h := hn (.inr rfl)
    refine ⟨fun c hc => ?_, by simp [wordOf]⟩
    simp only [wordOf] at hc
    rcases List.mem_cons.1 hc with rfl | hc
    · decide
    · exact name_all h c hc
  · exact ⟨by show ∀ c ∈ ([95] : List UInt8), nameB c = true; decide, by show ([95] : List UInt8) ≠ []; decide⟩
  · exact ⟨by show ∀ c ∈ ([116, 121, 112, 101] : List UInt8), nameB c = true; decide, by show ([116, 121, 112, 101] : List UInt8) ≠ []; decide⟩
theorem bind_names {n : List UInt8} (h : isName n = true ∨ n = [95]) : ∀ c ∈ n, nameB c = true := by
  rcases h with h | rfl
  · exact name_all h
  · decide
/-- A word tells its kind. -/
theorem word_kind {k k' : Int} {n n' : List UInt8} (hk : k = 1 ∨ k = 2 ∨ k = 3 ∨ k = 4) (hn : (k = 1 ∨ k = 2) → isName n = true) (h0 : (k = 3 ∨ k = 4) → n = []) (hk' : k' = 1 ∨ k' = 2 ∨ k' = 3 ∨ k' = 4) (hn' : (k' = 1 ∨ k' = 2) → isName n' = true) (h0' : (k' = 3 ∨ k' = 4) → n' = []) (h : wordOf k n = wordOf k' n') : k = k' ∧ n = n' := by
  have r1 : ∀ m, isName m = true → m ≠ [95] ∧ m ≠ [116, 121, 112, 101] := fun m hm => by
    have := name_res hm
    exact ⟨fun e => by rw [e] at this; revert this; decide, fun e => by rw [e] at this; revert this; decide⟩
  have r2 : ∀ m x, isName m = true → m ≠ 64 :: x := fun m x hm e => by
    have := name_at hm
    rw [e] at this
    exact this rfl
  rcases hk with rfl | rfl | rfl | rfl <;> rcases hk' with rfl | rfl | rfl | rfl <;> simp only [wordOf] at h <;> try simp only [reduceIte, Int.reduceEq] at h
  · exact ⟨rfl, h⟩
  · exact absurd h (r2 _ _ (hn (.inl rfl)))
  · exact absurd h (r1 _ (hn (.inl rfl))).1
  · exact absurd h (r1 _ (hn (.inl rfl))).2
  · exact absurd h.symm (r2 _ _ (hn' (.inl rfl)))
  · exact ⟨rfl, by simpa using h⟩
  · simp at h
  · simp at h
  · exact absurd h.symm (r1 _ (hn' (.inl rfl))).1
  · simp at h
  · exact ⟨rfl, by rw [h0 (.inl rfl), h0' (.inl rfl)]⟩
  · simp at h
  · exact absurd h.symm (r1 _ (hn' (.inl rfl))).2
  · simp at h
  · simp at h
  · exact ⟨rfl, by rw [h0 (.inr rfl), h0' (.inr rfl)]⟩

/-- The first byte of a tree's text. -/
theorem text_head {a : Raw} (h : a.form = true) : ∃ c r, Raw.text [] a = c :: r ∧ (nameB c = true ∨ c = 40) := by
  obtain ⟨k, n, p, ts⟩ := a
  rcases shapes h with ⟨hk, _, hn, _, ht⟩ | ⟨_, _, x, y, _, _, _, ht⟩ | ⟨_, _, x, _, _, ht⟩ | ⟨_, _, x, y, _, _, _, ht⟩
  · obtain ⟨h1, h2⟩ := word_names hk hn
    cases hw : wordOf k n with
    | nil => exact absurd hw h2
    | cons c r => exact ⟨c, r, by rw [ht, hw], .inl (h1 c (by rw [hw]; exact List.mem_cons_self))⟩
  · exact ⟨40, _, ht, .inr rfl⟩
  · exact ⟨40, _, ht, .inr rfl⟩
  · exact ⟨40, _, ht, .inr rfl⟩
theorem word_paren {w r s : List UInt8} (h1 : ∀ c ∈ w, nameB c = true) (h2 : w ≠ []) : w ++ s ≠ 40 :: r := fun e => by
  cases w with
  | nil => exact h2 rfl
  | cons c x =>
    simp only [List.cons_append, List.cons.injEq] at e
    have := h1 c List.mem_cons_self
    rw [e.1] at this
    revert this; decide

set_option maxHeartbeats 1000000 in
theorem text_inj (m : Nat) : ∀ (a b : Raw) (s t : List UInt8), a.size ≤ m → a.form = true → b.form = true → Stop s → Stop t → Raw.text [] a ++ s = Raw.text [] b ++ t → Raw.same false a b = true ∧ s = t := by
  induction m with
  | zero => intro a b s t h; have := a.size_pos; omega
  | succ m ih =>
    intro a b s t hm ha hb hs ht h
    obtain ⟨k, n, p, ts⟩ := a
    obtain ⟨k', n', p', ts'⟩ := b
    have s32 : ∀ r, Stop (32 :: r) := fun r => stop_cons r (by decide)
    have s41 : ∀ r, Stop (41 :: r) := fun r => stop_cons r (by decide)
    have s58 : ∀ r, Stop (58 :: r) := fun r => stop_cons r (by decide)
    have scl : ∀ k r, Stop (clOf k :: r) := fun k r => stop_cons r (by unfold clOf; split <;> decide)
    have smid : ∀ k r, Stop (midOf k ++ r) := fun k r => by unfold midOf; split; exact s32 _; split; exact s32 _; exact s32 _
    simp only [Raw.size] at hm
    rcases shapes ha with ⟨hk, e1, hn, h0, htx⟩ | ⟨hk, e1, x, y, e2, hx, hy, htx⟩ | ⟨hk, hn, x, e2, hx, htx⟩ | ⟨hk, hn, x, y, e2, hx, hy, htx⟩ <;>
    rcases shapes hb with ⟨hk', e1', hn', h0', htx'⟩ | ⟨hk', e1', x', y', e2', hx', hy', htx'⟩ | ⟨hk', hn', x', e2', hx', htx'⟩ | ⟨hk', hn', x', y', e2', hx', hy', htx'⟩ <;>
    rw [htx, htx'] at h
    · obtain ⟨w1, w2⟩ := word_names hk hn
      obtain ⟨w1', w2'⟩ := word_names hk' hn'
      obtain ⟨hw, hst⟩ := word_split _ _ _ _ w1 w1' hs ht h
      obtain ⟨rfl, rfl⟩ := word_kind hk hn h0 hk' hn' h0' hw
      subst e1 e1'
      exact ⟨by simp [Raw.same, Raw.sames], hst⟩
    · obtain ⟨w1, w2⟩ := word_names hk hn
      exact absurd h (word_paren w1 w2)
    · obtain ⟨w1, w2⟩ := word_names hk hn
      exact absurd h (word_paren w1 w2)
    · obtain ⟨w1, w2⟩ := word_names hk hn
      exact absurd h (word_paren w1 w2)
    · obtain ⟨w1', w2'⟩ := word_names hk' hn'
      exact absurd h.symm (word_paren w1' w2')
    · subst e1 e1' e2 e2'
      simp only [Raw.sizes, Nat.add_zero] at hm
      simp only [List.cons_append, List.append_assoc, List.cons.injEq, true_and] at h
      obtain ⟨hxx, h⟩ := ih x x' _ _ (by omega) hx hx' (smid _ _) (smid _ _) h
      obtain ⟨cy, ry, ey, hcy⟩ := text_head hy
      obtain ⟨cy', ry', ey', hcy'⟩ := text_head hy'
      have hkk : k = k' ∧ Raw.text [] y ++ 41 :: s = Raw.text [] y' ++ 41 :: t := by
        have arrow : ∀ (z : Raw) (u v : List UInt8), z.form = true → Raw.text [] z ++ 41 :: u ≠ [45, 62] ++ 32 :: v := fun z u v hz e => by
          obtain ⟨kz, nz, pz, tz⟩ := z
          rcases shapes hz with ⟨hkz, _, hnz, _, htz⟩ | ⟨_, _, _, _, _, _, _, htz⟩ | ⟨_, _, _, _, _, htz⟩ | ⟨_, _, _, _, _, _, _, htz⟩ <;> rw [htz] at e
          · obtain ⟨z1, z2⟩ := word_names hkz hnz
            obtain ⟨hw, _⟩ := word_split _ _ _ _ z1 (by decide) (s41 _) (s32 _) e
            rcases hkz with rfl | rfl | rfl | rfl
            · have := name_res (hnz (.inl rfl))
              rw [show nz = [45, 62] from hw] at this
              revert this; decide
            · simp [wordOf] at hw
            · simp [wordOf] at hw
            · simp [wordOf] at hw
          · simp at e
          · simp at e
          · simp at e
        have colon : ∀ (z : Raw) (u v : List UInt8), z.form = true → Raw.text [] z ++ u ≠ 58 :: v := fun z u v hz e => by
          obtain ⟨c, r, ez, hc⟩ := text_head hz
          rw [ez] at e
          simp only [List.cons_append, List.cons.injEq] at e
          rcases hc with hc | hc
          · rw [e.1] at hc; revert hc; decide
          · rw [e.1] at hc; revert hc; decide
        rcases hk with rfl | rfl | rfl <;> rcases hk' with rfl | rfl | rfl <;> simp only [midOf, reduceIte, Int.reduceEq, List.cons_append, List.nil_append, List.cons.injEq, true_and, List.append_assoc] at h
        · exact ⟨rfl, by simpa using h⟩
        · exact absurd (by simpa using h) (arrow y s (Raw.text [] y' ++ 41 :: t) hy)
        · exact absurd h (colon y _ _ hy)
        · exact absurd (by simpa using h.symm) (arrow y' t (Raw.text [] y ++ 41 :: s) hy')
        · exact ⟨rfl, by simpa using h⟩
        · simp at h
        · exact absurd h.symm (colon y' _ _ hy')
        · simp at h
        · exact ⟨rfl, by simpa using h⟩
      obtain ⟨rfl, h2⟩ := hkk
      obtain ⟨hyy, h3⟩ := ih y y' _ _ (by omega) hy hy' (s41 _) (s41 _) h2
      exact ⟨by simp [Raw.same, Raw.sames, hxx, hyy], by simpa using h3⟩
    · exfalso
      obtain ⟨c, r, ez, hc⟩ := text_head hx
      rw [ez] at h
      simp only [List.cons_append, List.cons.injEq, true_and] at h
      rcases hk' with rfl | rfl <;> rcases hc with hc | hc <;> rw [h.1] at hc <;> revert hc <;> decide
    · exfalso
      obtain ⟨c, r, ez, hc⟩ := text_head hx
      rw [ez] at h
      simp only [List.cons_append, List.cons.injEq, true_and] at h
      rcases hk' with rfl | rfl <;> rcases hc with hc | hc <;> rw [h.1] at hc <;> revert hc <;> decide
    · obtain ⟨w1', w2'⟩ := word_names hk' hn'
      exact absurd h.symm (word_paren w1' w2')
    · exfalso
      obtain ⟨c, r, ez, hc⟩ := text_head hx'
      rw [ez] at h
      simp only [List.cons_append, List.cons.injEq, true_and] at h
      rcases hk with rfl | rfl <;> rcases hc with hc | hc <;> rw [← h.1] at hc <;> revert hc <;> decide
    · subst e2 e2'
      simp only [Raw.sizes, Nat.add_zero] at hm
      simp only [List.cons_append, List.append_assoc, List.cons.injEq, true_and] at h
      obtain ⟨ho, h⟩ := h
      obtain ⟨hnn, h4⟩ := word_split _ _ _ _ (bind_names hn) (bind_names hn') (scl _ _) (scl _ _) h
      subst hnn
      have hkk : k = k' := by rcases hk with rfl | rfl <;> rcases hk' with rfl | rfl <;> first | rfl | (exfalso; revert ho; decide)
      subst hkk
      simp only [List.cons.injEq, true_and] at h4
      obtain ⟨hxx, h3⟩ := ih x x' _ _ (by omega) hx hx' (s41 _) (s41 _) (by simpa using h4)
      exact ⟨by simp [Raw.same, Raw.sames, hxx], by simpa using h3⟩
    · exfalso
      simp only [List.cons_append, List.append_assoc, List.cons.injEq, true_and] at h
      obtain ⟨_, h⟩ := word_split _ _ _ _ (bind_names hn) (bind_names hn') (scl _ _) (s58 _) h.2
      simp only [List.cons.injEq] at h
      rcases hk with rfl | rfl <;> exact absurd h.1 (by decide)
    · obtain ⟨w1', w2'⟩ := word_names hk' hn'
      exact absurd h.symm (word_paren w1' w2')
    · exfalso
      obtain ⟨c, r, ez, hc⟩ := text_head hx'
      rw [ez] at h
      simp only [List.cons_append, List.cons.injEq, true_and] at h
      rcases hk with rfl | rfl <;> rcases hc with hc | hc <;> rw [← h.1] at hc <;> revert hc <;> decide
    · exfalso
      simp only [List.cons_append, List.append_assoc, List.cons.injEq, true_and] at h
      obtain ⟨_, h⟩ := word_split _ _ _ _ (bind_names hn) (bind_names hn') (s58 _) (scl _ _) h.2
      simp only [List.cons.injEq] at h
      rcases hk' with rfl | rfl <;> exact absurd h.1 (by decide)
    · subst e2 e2'
      simp only [Raw.sizes, Nat.add_zero] at hm
      simp only [List.cons_append, List.append_assoc, List.cons.injEq, true_and] at h
      obtain ⟨ho, h⟩ := h
      obtain ⟨hnn, h4⟩ := word_split _ _ _ _ (bind_names hn) (bind_names hn') (s58 _) (s58 _) h
      subst hnn
      have hkk : k = k' := by rcases hk with rfl | rfl <;> rcases hk' with rfl | rfl <;> first | rfl | (exfalso; revert ho; decide)
      subst hkk
      simp only [List.cons.injEq, true_and] at h4
      obtain ⟨hxx, h2⟩ := ih x x' _ _ (by omega) hx hx' (scl _ _) (scl _ _) h4
      simp only [List.cons.injEq, true_and] at h2
      obtain ⟨hyy, h3⟩ := ih y y' _ _ (by omega) hy hy' (s41 _) (s41 _) (by simpa using h2)
      exact ⟨by simp [Raw.same, Raw.sames, hxx, hyy], by simpa using h3⟩
mutual
theorem same_text (q : List (List UInt8)) : ∀ a b : Raw, Raw.same false a b = true → Raw.text q a = Raw.text q b
  | .node k n p ts, .node k' n' p' ts', h => by
    simp only [Raw.same, Bool.and_eq_true, decide_eq_true_eq] at h
    obtain ⟨⟨⟨rfl, rfl⟩, _⟩, hs⟩ := h
    rw [Raw.text, Raw.text, sames_texts q ts ts' hs]
theorem sames_texts (q : List (List UInt8)) : ∀ a b : List Raw, Raw.sames false a b = true → Raw.texts q a = Raw.texts q b
  | [], [], _ => rfl
  | [], _ :: _, h => by simp [Raw.sames] at h
  | _ :: _, [], h => by simp [Raw.sames] at h
  | a :: r, a' :: r', h => by
    simp only [Raw.sames, Bool.and_eq_true] at h
    rw [Raw.texts, Raw.texts, same_text q a a' h.1, sames_texts q r r' h.2]
end
theorem text_same {a b : Raw} (ha : a.form = true) (hb : b.form = true) : decide (Raw.text [] a = Raw.text [] b) = Raw.same false a b := by
  cases h : Raw.same false a b
  · refine decide_eq_false fun e => ?_
    have := (text_inj a.size a b [] [] (Nat.le_refl _) ha hb stop_nil stop_nil (by rw [e])).1
    rw [h] at this; cases this
  · exact decide_eq_true (same_text [] a b h)
end Lfc
