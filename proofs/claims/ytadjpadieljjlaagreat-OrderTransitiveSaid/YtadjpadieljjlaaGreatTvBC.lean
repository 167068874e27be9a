/- Parts of the proof that no input makes the law false: OcTrP, OcTrO, OcTr1, OcTrW. -/
import Derived.Deep.RegionLaw
import Derived.Deep.DeepCutAuto
import Derived.Deep.CutBlock
import Derived.Test.YtadjpadieljjlaaGreatTvAG
import Derived.Test.YtadjpadieljjlaaGreatTvAM
import Derived.Test.YtadjpadieljjlaaGreatTvAY
import Derived.Test.YtadjpadieljjlaaGreatTvAZ
import Derived.Test.YtadjpadieljjlaaGreatTvBA
import Derived.Test.YtadjpadieljjlaaGreatTvBB
set_option linter.unusedVariables false
set_option linter.unusedSimpArgs false
namespace Lfc
def subN (ks : List Int) (f : Nat → Int) (cr : Nat) (k : Int) (n n' : List UInt8) (p p' d : Int) : Prop :=
  if k = 4 then n = n'
  else if k = 5 then
    (if p - d < 0 then p = p'
     else if p - d < (cr : Int) then (0 ≤ p' - d ∧ kindOf ks (p' - d) = 2 ∧ f (p - d).toNat = p' - d)
     else p' = p - (cr : Int))
  else if k = 6 then p = p'
  else True
mutual
def sub (ks : List Int) (f : Nat → Int) (cr : Nat) : Raw → Raw → Int → Prop
  | .node k n p xs, .node k' n' p' ys, d => k = k' ∧ subN ks f cr k n n' p p' d ∧ subs ks f cr xs ys (if k = 3 then d + 1 else d)
def subs (ks : List Int) (f : Nat → Int) (cr : Nat) : List Raw → List Raw → Int → Prop
  | [], [], _ => True
  | a :: r, b :: q, d => sub ks f cr a b d ∧ subs ks f cr r q d
  | [], _ :: _, _ => False
  | _ :: _, [], _ => False
end
def agr (f : Nat → Int) (cr : Nat) (tv : List Int) : Prop := tv.length = cr ∧ ∀ i, i < cr → tv.getD i 0 < 0 ∨ tv.getD i 0 = f i
theorem getD_set {tv : List Int} {i j : Nat} {x : Int} (h : i < tv.length) : (tv.set i x).getD j 0 = if i = j then x else tv.getD j 0 := by
  simp only [List.getD_eq_getElem?_getD, List.getElem?_set]
  by_cases e : i = j
  · subst e; simp [h]
  · simp [e]
theorem step_sub {ks : List Int} {cr : Nat} {k p p' d : Int} {n n' : List UInt8} {tv tv' : List Int} (hl : tv.length = cr) (h : stStep ks cr k n n' p p' d tv = some tv') : (tv'.length = cr ∧ ∀ i, i < cr → 0 ≤ tv.getD i 0 → tv'.getD i 0 = tv.getD i 0) ∧ (∀ f : Nat → Int, (∀ i, i < cr → 0 ≤ tv'.getD i 0 → f i = tv'.getD i 0) → subN ks f cr k n n' p p' d) := by
  unfold stStep at h
  unfold subN
  by_cases h4 : k = 4
  · simp only [h4, if_true] at h ⊢
    split at h
    · cases h; exact ⟨⟨hl, fun _ _ _ => rfl⟩, fun _ _ => by assumption⟩
    · cases h
  · simp only [h4, if_false] at h ⊢
    by_cases h5 : k = 5
    · simp only [h5, if_true] at h ⊢
      by_cases a1 : p - d < 0
      · simp only [a1, if_true] at h ⊢
        split at h
        · cases h; exact ⟨⟨hl, fun _ _ _ => rfl⟩, fun _ _ => by assumption⟩
        · cases h
      · simp only [a1, if_false] at h ⊢
        by_cases a2 : p - d < (cr : Int)
        · simp only [a2, if_true] at h ⊢
          split at h
          · cases h
          · rename_i hn
            cases h
            have hi : (p - d).toNat < tv.length := by omega
            have b1 : 0 ≤ p' - d := Classical.byContradiction fun e => hn (.inl (by omega))
            have b2 : kindOf ks (p' - d) = 2 := Classical.byContradiction fun e => hn (.inr (.inl e))
            refine ⟨⟨by rw [List.length_set]; exact hl, fun i hic h0 => ?_⟩, fun f hf => ⟨b1, b2, ?_⟩⟩
            · rw [getD_set hi]
              split
              · rename_i e
                subst e
                exact Classical.byContradiction fun e => hn (.inr (.inr ⟨h0, fun e2 => e e2.symm⟩))
              · rfl
            · have := hf (p - d).toNat (by omega) (by rw [getD_set hi, if_pos rfl]; exact b1)
              rw [getD_set hi, if_pos rfl] at this
              exact this
        · simp only [a2, if_false] at h ⊢
          split at h
          · cases h; exact ⟨⟨hl, fun _ _ _ => rfl⟩, fun _ _ => by assumption⟩
          · cases h
    · simp only [h5, if_false] at h ⊢
      by_cases h6 : k = 6
      · simp only [h6, if_true] at h ⊢
        split at h
        · cases h; exact ⟨⟨hl, fun _ _ _ => rfl⟩, fun _ _ => by assumption⟩
        · cases h
      · simp only [h6, if_false] at h ⊢
        cases h
        exact ⟨⟨hl, fun _ _ _ => rfl⟩, fun _ _ => trivial⟩
mutual
theorem st_sub {ks : List Int} {cr : Nat} : ∀ (s t : Raw) (d : Int) (tv tv' : List Int), tv.length = cr → Raw.st ks cr s t d tv = some tv' → (tv'.length = cr ∧ ∀ i, i < cr → 0 ≤ tv.getD i 0 → tv'.getD i 0 = tv.getD i 0) ∧ (∀ f : Nat → Int, (∀ i, i < cr → 0 ≤ tv'.getD i 0 → f i = tv'.getD i 0) → sub ks f cr s t d)
  | .node k n p xs, .node k' n' p' ys, d, tv, tv', hl, h => by
    rw [Raw.st] at h
    by_cases hc : k ≠ k' ∨ xs.length ≠ ys.length
    · rw [if_pos hc] at h; cases h
    · rw [if_neg hc] at h
      have hk : k = k' := Classical.byContradiction fun e => hc (.inl e)
      have hxy : xs.length = ys.length := Classical.byContradiction fun e => hc (.inr e)
      cases hs : stStep ks cr k n n' p p' d tv with
      | none => rw [hs] at h; cases h
      | some tv1 =>
        rw [hs] at h
        obtain ⟨⟨l1, k1⟩, s1⟩ := step_sub hl hs
        obtain ⟨⟨l2, k2⟩, s2⟩ := sts_sub xs ys _ tv1 tv' l1 hxy h
        refine ⟨⟨l2, fun i hi h0 => ?_⟩, fun f hf => ?_⟩
        · have e := k1 i hi h0
          rw [← e]
          exact k2 i hi (by rw [e]; exact h0)
        · rw [sub]
          refine ⟨hk, s1 f (fun i hi h0 => ?_), s2 f hf⟩
          have e := k2 i hi h0
          rw [← e]
          exact hf i hi (by rw [e]; exact h0)
theorem sts_sub {ks : List Int} {cr : Nat} : ∀ (xs ys : List Raw) (d : Int) (tv tv' : List Int), tv.length = cr → xs.length = ys.length → Raw.sts ks cr xs ys d tv = some tv' → (tv'.length = cr ∧ ∀ i, i < cr → 0 ≤ tv.getD i 0 → tv'.getD i 0 = tv.getD i 0) ∧ (∀ f : Nat → Int, (∀ i, i < cr → 0 ≤ tv'.getD i 0 → f i = tv'.getD i 0) → subs ks f cr xs ys d)
  | [], [], d, tv, tv', hl, _, h => by
    have h : some tv = some tv' := by simpa [Raw.sts] using h
    cases h
    exact ⟨⟨hl, fun _ _ _ => rfl⟩, fun _ _ => by rw [subs]; trivial⟩
  | [], _ :: _, _, _, _, _, hxy, _ => by simp at hxy
  | _ :: _, [], _, _, _, _, hxy, _ => by simp at hxy
  | a :: r, b :: q, d, tv, tv', hl, hxy, h => by
    rw [Raw.sts] at h
    cases hs : Raw.st ks cr a b d tv with
    | none => rw [hs] at h; cases h
    | some tv1 =>
      rw [hs] at h
      obtain ⟨⟨l1, k1⟩, s1⟩ := st_sub a b d tv tv1 hl hs
      obtain ⟨⟨l2, k2⟩, s2⟩ := sts_sub r q d tv1 tv' l1 (by simpa using hxy) h
      refine ⟨⟨l2, fun i hi h0 => ?_⟩, fun f hf => ?_⟩
      · have e := k1 i hi h0
        rw [← e]
        exact k2 i hi (by rw [e]; exact h0)
      · rw [subs]
        refine ⟨s1 f (fun i hi h0 => ?_), s2 f hf⟩
        have e := k2 i hi h0
        rw [← e]
        exact hf i hi (by rw [e]; exact h0)
end
theorem sub_step {ks : List Int} {f : Nat → Int} {cr : Nat} {k p p' d : Int} {n n' : List UInt8} {tv : List Int} (ha : agr f cr tv) (h : subN ks f cr k n n' p p' d) : ∃ tv', stStep ks cr k n n' p p' d tv = some tv' ∧ agr f cr tv' := by
  unfold subN at h
  unfold stStep
  by_cases h4 : k = 4
  · simp only [h4, if_true] at h ⊢
    exact ⟨tv, by rw [if_pos h], ha⟩
  · simp only [h4, if_false] at h ⊢
    by_cases h5 : k = 5
    · simp only [h5, if_true] at h ⊢
      by_cases a1 : p - d < 0
      · simp only [a1, if_true] at h ⊢
        exact ⟨tv, by rw [if_pos h], ha⟩
      · simp only [a1, if_false] at h ⊢
        by_cases a2 : p - d < (cr : Int)
        · simp only [a2, if_true] at h ⊢
          have hi : (p - d).toNat < tv.length := by have := ha.1; omega
          have hi' : (p - d).toNat < cr := by omega
          refine ⟨_, if_neg ?_, by rw [List.length_set]; exact ha.1, fun i hic => ?_⟩
          · rintro (e | e | ⟨e, e2⟩)
            · omega
            · exact e h.2.1
            · rcases ha.2 _ hi' with e3 | e3
              · omega
              · exact e2 (e3.trans h.2.2)
          · rw [getD_set hi]
            split
            · rename_i e
              subst e
              exact .inr h.2.2.symm
            · exact ha.2 i hic
        · simp only [a2, if_false] at h ⊢
          exact ⟨tv, by rw [if_pos h], ha⟩
    · simp only [h5, if_false] at h ⊢
      by_cases h6 : k = 6
      · simp only [h6, if_true] at h ⊢
        exact ⟨tv, by rw [if_pos h], ha⟩
      · simp only [h6, if_false] at h ⊢
        exact ⟨tv, rfl, ha⟩
theorem subs_len {ks : List Int} {f : Nat → Int} {cr : Nat} : ∀ (xs ys : List Raw) (d : Int), subs ks f cr xs ys d → xs.length = ys.length
  | [], [], _, _ => rfl
  | [], _ :: _, _, h => by rw [subs] at h; exact h.elim
  | _ :: _, [], _, h => by rw [subs] at h; exact h.elim
  | a :: r, b :: q, d, h => by rw [subs] at h; simp [subs_len r q d h.2]
mutual
theorem sub_st {ks : List Int} {f : Nat → Int} {cr : Nat} : ∀ (s t : Raw) (d : Int) (tv : List Int), agr f cr tv → sub ks f cr s t d → ∃ tv', Raw.st ks cr s t d tv = some tv' ∧ agr f cr tv'
  | .node k n p xs, .node k' n' p' ys, d, tv, ha, h => by
    rw [sub] at h
    obtain ⟨hk, hn, hs⟩ := h
    obtain ⟨tv1, e1, a1⟩ := sub_step ha hn
    obtain ⟨tv2, e2, a2⟩ := subs_st xs ys _ tv1 a1 hs
    refine ⟨tv2, ?_, a2⟩
    rw [Raw.st, if_neg (by rintro (e | e); exact e hk; exact e (subs_len xs ys _ hs)), e1]
    exact e2
theorem subs_st {ks : List Int} {f : Nat → Int} {cr : Nat} : ∀ (xs ys : List Raw) (d : Int) (tv : List Int), agr f cr tv → subs ks f cr xs ys d → ∃ tv', Raw.sts ks cr xs ys d tv = some tv' ∧ agr f cr tv'
  | [], [], _, tv, ha, _ => ⟨tv, by simp [Raw.sts], ha⟩
  | [], _ :: _, _, _, _, h => by rw [subs] at h; exact h.elim
  | _ :: _, [], _, _, _, h => by rw [subs] at h; exact h.elim
  | a :: r, b :: q, d, tv, ha, h => by
    rw [subs] at h
    obtain ⟨tv1, e1, a1⟩ := sub_st a b d tv ha h.1
    obtain ⟨tv2, e2, a2⟩ := subs_st r q d tv1 a1 h.2
    exact ⟨tv2, by rw [Raw.sts, e1]; exact e2, a2⟩
end
theorem stands_iff {ks : List Int} {cr : Nat} {s t : Raw} : Raw.stands ks cr s t = true ↔ ∃ f, sub ks f cr s t 0 := by
  unfold Raw.stands
  constructor
  · intro h
    obtain ⟨tv', e⟩ := Option.isSome_iff_exists.1 h
    exact ⟨fun i => tv'.getD i 0, (st_sub s t 0 _ tv' (by simp) e).2 _ (fun i _ _ => rfl)⟩
  · rintro ⟨f, h⟩
    obtain ⟨tv', e, _⟩ := sub_st s t 0 (List.replicate cr (-1)) ⟨by simp, fun i hi => .inl (by simp [List.getD_eq_getElem?_getD, hi])⟩ h
    rw [e]; rfl
mutual
theorem sub_comp {ks : List Int} {f f' : Nat → Int} {cr cr' : Nat} : ∀ (a s t : Raw) (d : Int), 0 ≤ d → sub ks f' cr' a s ((cr : Int) + d) → sub ks f cr s t d → sub ks (fun i => if i < cr then f i else f' (i - cr)) (cr' + cr) a t d
  | .node k n p xs, .node k1 n1 p1 ys, .node k2 n2 p2 zs, d, hd, h, h' => by
    rw [sub] at h h' ⊢
    obtain ⟨rfl, a1, b1⟩ := h
    obtain ⟨rfl, a2, b2⟩ := h'
    refine ⟨rfl, ?_, ?_⟩
    · unfold subN at a1 a2 ⊢
      by_cases h4 : k = 4
      · simp only [h4, if_true] at a1 a2 ⊢; exact a1.trans a2
      · simp only [h4, if_false] at a1 a2 ⊢
        by_cases h5 : k = 5
        · simp only [h5, if_true] at a1 a2 ⊢
          by_cases c1 : p - ((cr : Int) + d) < 0
          · simp only [c1, if_true] at a1
            subst a1
            by_cases c2 : p - d < 0
            · simp only [c2, if_true] at a2 ⊢; exact a2
            · simp only [c2, if_false] at a2 ⊢
              have c3 : p - d < (cr : Int) := by omega
              have c4 : p - d < ((cr' + cr : Nat) : Int) := by omega
              simp only [c3, c4, if_true] at a2 ⊢
              refine ⟨a2.1, a2.2.1, ?_⟩
              rw [if_pos (by omega)]
              exact a2.2.2
          · simp only [c1, if_false] at a1
            by_cases c2 : p - ((cr : Int) + d) < (cr' : Int)
            · simp only [c2, if_true] at a1
              obtain ⟨q1, q2, q3⟩ := a1
              have d1 : ¬ p1 - d < 0 := by omega
              have d2 : ¬ p1 - d < (cr : Int) := by omega
              simp only [d1, d2, if_false] at a2
              have d3 : ¬ p - d < 0 := by omega
              have d4 : p - d < ((cr' + cr : Nat) : Int) := by omega
              simp only [d3, d4, if_false, if_true]
              have e1 : p2 - d = p1 - ((cr : Int) + d) := by omega
              rw [e1]
              refine ⟨q1, q2, ?_⟩
              rw [if_neg (by omega)]
              have e2 : (p - d).toNat - cr = (p - ((cr : Int) + d)).toNat := by omega
              rw [e2]
              exact q3
            · simp only [c2, if_false] at a1
              have d1 : ¬ p1 - d < 0 := by omega
              have d2 : ¬ p1 - d < (cr : Int) := by omega
              simp only [d1, d2, if_false] at a2
              have d3 : ¬ p - d < 0 := by omega
              have d4 : ¬ p - d < ((cr' + cr : Nat) : Int) := by omega
              simp only [d3, d4, if_false]
              omega
        · simp only [h5, if_false] at a1 a2 ⊢
          by_cases h6 : k = 6
          · simp only [h6, if_true] at a1 a2 ⊢; exact a1.trans a2
          · simp only [h6, if_false]
    · by_cases h3 : k = 3
      · simp only [h3, if_true] at b1 b2 ⊢
        exact subs_comp xs ys zs (d + 1) (by omega) (by rw [show (cr : Int) + (d + 1) = (cr : Int) + d + 1 by omega]; exact b1) b2
      · simp only [h3, if_false] at b1 b2 ⊢
        exact subs_comp xs ys zs d hd b1 b2
theorem subs_comp {ks : List Int} {f f' : Nat → Int} {cr cr' : Nat} : ∀ (xs ys zs : List Raw) (d : Int), 0 ≤ d → subs ks f' cr' xs ys ((cr : Int) + d) → subs ks f cr ys zs d → subs ks (fun i => if i < cr then f i else f' (i - cr)) (cr' + cr) xs zs d
  | [], [], [], _, _, _, _ => by rw [subs]; trivial
  | [], [], _ :: _, _, _, _, h => by rw [subs] at h; exact h.elim
  | [], _ :: _, _, _, _, h, _ => by rw [subs] at h; exact h.elim
  | _ :: _, [], _, _, _, h, _ => by rw [subs] at h; exact h.elim
  | _ :: _, _ :: _, [], _, _, _, h => by rw [subs] at h; exact h.elim
  | a :: r, b :: q, c :: z, d, hd, h, h' => by
    rw [subs] at h h' ⊢
    exact ⟨sub_comp a b c d hd h.1 h'.1, subs_comp r q z d hd h.2 h'.2⟩
end
mutual
def occ (ks : List Int) (t : Raw) : Raw → Nat → Prop
  | .node k n p xs, cr => Raw.stands ks cr (.node k n p xs) t = true ∨ (Raw.pas ks cr (.node k n p xs) = true ∧ occs ks t xs (if k = 3 then cr + 1 else cr))
def occs (ks : List Int) (t : Raw) : List Raw → Nat → Prop
  | [], _ => False
  | a :: r, cr => occ ks t a cr ∨ occs ks t r cr
end
mutual
theorem pth_occ {ks : List Int} {t : Raw} : ∀ (s : Raw) (cr : Nat), (Raw.pth ks t s cr).isSome = true ↔ occ ks t s cr
  | .node k n p xs, cr => by
    rw [Raw.pth, occ]
    by_cases h1 : Raw.stands ks cr (.node k n p xs) t = true
    · simp [h1]
    · rw [if_neg h1]
      cases h2 : Raw.pas ks cr (.node k n p xs) with
      | false => simp [h1]
      | true =>
        have := pths_occ (ks := ks) (t := t) xs (if k = 3 then cr + 1 else cr) 0
        simp only [Bool.true_eq_false, if_false, this]
        simp [h1]
theorem pths_occ {ks : List Int} {t : Raw} : ∀ (xs : List Raw) (cr : Nat) (i : Int), (Raw.pths ks t xs cr i).isSome = true ↔ occs ks t xs cr
  | [], _, _ => by rw [Raw.pths, occs]; simp
  | a :: r, cr, i => by
    have h1 := pth_occ (ks := ks) (t := t) a cr
    have h2 := pths_occ (ks := ks) (t := t) r cr (i + 1)
    rw [Raw.pths, occs]
    cases hp : Raw.pth ks t a cr with
    | some q => rw [hp] at h1; simp at h1; simp [h1]
    | none => rw [hp] at h1; simp at h1; simp only [h2]; simp [h1]
end
mutual
theorem occ_sub {ks : List Int} {t : Raw} {f' : Nat → Int} {c : Nat} : ∀ (a b : Raw) (e : Nat), sub ks f' c a b (e : Int) → occ ks t b e → occ ks t a (c + e)
  | .node k n p xs, .node k1 n1 p1 ys, e, h, ho => by
    have hs := h
    rw [sub] at h
    obtain ⟨rfl, a1, b1⟩ := h
    rw [occ] at ho ⊢
    rcases ho with ho | ⟨hp, ho⟩
    · obtain ⟨f, hf⟩ := stands_iff.1 ho
      exact .inl (stands_iff.2 ⟨_, sub_comp _ _ _ 0 (Int.le_refl _) (by rw [Int.add_zero]; exact hs) hf⟩)
    · refine .inr ⟨?_, ?_⟩
      · rw [Raw.pas] at hp ⊢
        by_cases h34 : k = 3 ∨ k = 4
        · rw [if_pos h34]
        · rw [if_neg h34] at hp ⊢
          by_cases h5 : k = 5
          · rw [if_pos h5] at hp ⊢
            unfold subN at a1
            have h4 : ¬ k = 4 := fun e => h34 (.inr e)
            rw [if_neg h4, if_pos h5] at a1
            simp only [Bool.or_eq_true, decide_eq_true_eq] at hp ⊢
            by_cases c1 : p - (e : Int) < 0
            · exact .inl (by omega)
            · rw [if_neg c1] at a1
              by_cases c2 : p - (e : Int) < (c : Int)
              · exact .inl (by omega)
              · rw [if_neg c2] at a1
                rcases hp with hp | hp
                · exact .inl (by omega)
                · refine .inr ?_
                  rw [show p - ((c + e : Nat) : Int) = p1 - (e : Int) by omega]
                  exact hp
          · rw [if_neg h5] at hp; cases hp
      · by_cases h3 : k = 3
        · simp only [h3, if_true] at b1 ho ⊢
          exact occs_sub xs ys (e + 1) (by rw [show ((e + 1 : Nat) : Int) = (e : Int) + 1 by omega]; exact b1) ho
        · simp only [h3, if_false] at b1 ho ⊢
          exact occs_sub xs ys e b1 ho
theorem occs_sub {ks : List Int} {t : Raw} {f' : Nat → Int} {c : Nat} : ∀ (xs ys : List Raw) (e : Nat), subs ks f' c xs ys (e : Int) → occs ks t ys e → occs ks t xs (c + e)
  | [], [], _, _, h => by rw [occs] at h; exact h.elim
  | [], _ :: _, _, h, _ => by rw [subs] at h; exact h.elim
  | _ :: _, [], _, h, _ => by rw [subs] at h; exact h.elim
  | a :: r, b :: q, e, h, ho => by
    rw [subs] at h
    rw [occs] at ho ⊢
    exact ho.imp (occ_sub a b e h.1) (occs_sub r q e h.2)
end
mutual
theorem occ_trans {ks : List Int} {t u : Raw} (h0 : occ ks t u 0) : ∀ (v : Raw) (c : Nat), occ ks u v c → occ ks t v c
  | .node k n p xs, c, h => by
    have h' := h
    rw [occ] at h
    rcases h with h | ⟨hp, h⟩
    · obtain ⟨f, hf⟩ := stands_iff.1 h
      have := occ_sub (t := t) _ u 0 hf h0
      exact this
    · rw [occ]
      exact .inr ⟨hp, occs_trans h0 xs _ h⟩
theorem occs_trans {ks : List Int} {t u : Raw} (h0 : occ ks t u 0) : ∀ (xs : List Raw) (c : Nat), occs ks u xs c → occs ks t xs c
  | [], _, h => by rw [occs] at h; exact h.elim
  | a :: r, c, h => by
    rw [occs] at h ⊢
    exact h.imp (occ_trans h0 a c) (occs_trans h0 r c)
end
theorem upS_pos {ks : List Int} {t u : Raw} : 0 < upS ks t u ↔ (t.isO = true ∧ u.isO = true) ∧ occ ks t u 0 := by
  rw [upS, Raw.up, Raw.path]
  have h1 := pth_occ (ks := ks) (t := t) u 0
  by_cases h : (t.isO && u.isO) = true
  · rw [if_pos h]
    rw [Bool.and_eq_true] at h
    cases hp : Raw.pth ks t u 0 with
    | none =>
      rw [hp] at h1
      simp only [upOf]
      refine ⟨fun h => absurd h (by decide), fun h => ?_⟩
      have := h1.2 h.2
      cases this
    | some q =>
      rw [hp] at h1
      have h2 := h1.1 rfl
      cases q with
      | nil => simp only [upOf]; exact ⟨fun _ => ⟨h, h2⟩, fun _ => by decide⟩
      | cons i r => simp only [upOf]; exact ⟨fun _ => ⟨h, h2⟩, fun _ => by decide⟩
  · rw [if_neg h]
    simp only [upOf]
    rw [Bool.and_eq_true] at h
    exact ⟨fun h => absurd h (by decide), fun h' => absurd h'.1 h⟩
theorem upS_eq {ks : List Int} {t u : Raw} (h : upS ks t u = 1) : t.size = u.size := by
  rw [upS, Raw.up] at h
  cases hp : Raw.path ks t u with
  | none => rw [hp] at h; simp [upOf] at h
  | some q =>
    rw [hp] at h
    cases q with
    | cons i r => simp [upOf] at h
    | nil =>
      rw [Raw.path] at hp
      split at hp
      · rcases pth_size ks t u 0 [] hp with ⟨_, _, h2⟩ | ⟨h1, h2⟩
        · omega
        · first | omega | (simp at h1)
      · cases hp
theorem upS_trans {ks : List Int} {t u v : Raw} (h1 : 0 < upS ks t u) (h2 : 0 < upS ks u v) : upS ks t u ≤ upS ks t v ∧ upS ks u v ≤ upS ks t v ∧ 0 < upS ks t v := by
  have p1 := upS_pos.1 h1
  have p2 := upS_pos.1 h2
  have h3 : 0 < upS ks t v := upS_pos.2 ⟨⟨p1.1.1, p2.1.2⟩, occ_trans p1.2 v 0 p2.2⟩
  have r1 := upS_range ks t u
  have r2 := upS_range ks u v
  have r3 := upS_range ks t v
  have a1 := upS_one (ks := ks) (t := t) (u := u) (by omega)
  have a2 := upS_one (ks := ks) (t := u) (u := v) (by omega)
  rcases r3 with r3 | r3 | r3
  · omega
  · have e := upS_eq r3
    rcases r1 with r1 | r1 | r1
    · omega
    · rcases r2 with r2 | r2 | r2
      · omega
      · omega
      · have := upS_two (ks := ks) (t := u) (u := v) (by omega)
        omega
    · have := upS_two (ks := ks) (t := t) (u := u) (by omega)
      omega
  · omega
theorem stp_ge {ks : List Int} {fs : List Fact} {i j : Nat} : upS ks (sd fs i) (sd fs j) ≤ stp ks fs i j := by
  have := upS_range ks (sd fs i) (sd fs j)
  unfold stp
  repeat' split
  all_goals omega
theorem Rch.ahead {ks : List Int} {fs : List Fact} {l r : Raw} {i : Nat} {s : Int} (hl : 0 < upS ks l r) (h : Rch ks fs r i s) : ∃ s', Rch ks fs l i s' ∧ upS ks l r ≤ s' ∧ s ≤ s' := by
  induction h with
  | start i hi h =>
    obtain ⟨a, b, c⟩ := upS_trans hl h
    exact ⟨_, .start i hi c, a, b⟩
  | step i j s h hj hne hs ih =>
    obtain ⟨s', h', a, b⟩ := ih
    exact ⟨_, .step i j s' h' hj hne hs, by omega, by omega⟩
theorem Rch.behind {ks : List Int} {fs : List Fact} {l r : Raw} {i j : Nat} {s s2 : Int} (h : Rch ks fs l i s) (hr : 0 < upS ks (sd fs i) r) (h2 : Rch ks fs r j s2) : ∃ s', Rch ks fs l j s' ∧ upS ks (sd fs i) r ≤ s' ∧ s ≤ s' ∧ s2 ≤ s' := by
  induction h2 with
  | start j hj hp =>
    obtain ⟨a, b, c⟩ := upS_trans hr hp
    by_cases e : j = i
    · subst e
      have hs := h.range
      have r1 := upS_range ks (sd fs j) r
      have r2 := upS_range ks r (sd fs j)
      have z1 := upS_one (ks := ks) (t := sd fs j) (u := r) (by omega)
      have z2 := upS_one (ks := ks) (t := r) (u := sd fs j) (by omega)
      have y1 : upS ks (sd fs j) r = 1 := by
        rcases r1 with r1 | r1 | r1
        · omega
        · exact r1
        · have := upS_two (ks := ks) (t := sd fs j) (u := r) (by omega); omega
      have y2 : upS ks r (sd fs j) = 1 := by
        rcases r2 with r2 | r2 | r2
        · omega
        · exact r2
        · have := upS_two (ks := ks) (t := r) (u := sd fs j) (by omega); omega
      exact ⟨s, h, by omega, by omega, by omega⟩
    · have hg := stp_ge (ks := ks) (fs := fs) (i := i) (j := j)
      exact ⟨_, .step i j s h hj e (by omega), by omega, by omega, by omega⟩
  | step j j' s2 h2 hj hne hs ih =>
    obtain ⟨s', h', a, b, c⟩ := ih
    exact ⟨_, .step j j' s' h' hj hne hs, by omega, by omega, by omega⟩
theorem chn_trans {ks : List Int} {fs : List Fact} {l r t : Raw} {m1 m2 m : Int} (h1 : chn ks fs l r m1) (h2 : chn ks fs r t m2) (p1 : 1 ≤ m1) (p2 : 1 ≤ m2) (hm : m ≤ m1 ∨ m ≤ m2) : chn ks fs l t m := by
  rcases h1 with h1 | ⟨i, s, a1, a2, a3⟩
  · rcases h2 with h2 | ⟨j, s2, b1, b2, b3⟩
    · have := upS_trans (ks := ks) (t := l) (u := r) (v := t) (by omega) (by omega)
      exact .inl (by omega)
    · obtain ⟨s', c1, c2, c3⟩ := b1.ahead (l := l) (by omega)
      exact .inr ⟨j, s', c1, b2, by omega⟩
  · rcases h2 with h2 | ⟨j, s2, b1, b2, b3⟩
    · have := upS_trans (ks := ks) (t := sd fs i) (u := r) (v := t) a2 (by omega)
      exact .inr ⟨i, s, a1, this.2.2, by omega⟩
    · obtain ⟨s', c1, c2, c3, c4⟩ := a1.behind a2 b1
      exact .inr ⟨j, s', c1, b2, by omega⟩
end Lfc
namespace Lfc
mutual
def Ods.dg : Ods → Prop
 | .arg i j => i = j
 | .lex ps => Ods.dgs ps
 | .sim ps => Ods.dgs ps
def Ods.dgs : List Ods → Prop
 | [] => True
 | p :: r => Ods.dg p ∧ Ods.dgs r
end
mutual
theorem odsOf_dg : ∀ o : Ord, (odsOf o o).dg
 | .node k a ps => by
  have h := odsOfs_dg ps
  rw [odsOf]
  split
  ·rw [Ods.dg]; exact h
  ·split
   ·rw [Ods.dg]; exact h
   ·rw [Ods.dg]
theorem odsOfs_dg : ∀ ps : List Ord, Ods.dgs (odsOfs ps ps)
 | [] => by rw [odsOfs, Ods.dgs]; trivial
 | a :: r => by rw [odsOfs, Ods.dgs]; exact ⟨odsOf_dg a, odsOfs_dg r⟩
end
section
variable {L1 W1 B1 L2 W2 B2 L3 W3 B3 : Nat → Nat → Prop}
mutual
theorem ods_comp (k1 : ∀ i j, L1 i j → W1 i j) (k2 : ∀ i j, L2 i j → W2 i j) (k3 : ∀ i j, L3 i j → W3 i j) (hLW : ∀ i, L1 i i → W2 i i → L3 i i) (hWL : ∀ i, W1 i i → L2 i i → L3 i i) (hWW : ∀ i, W1 i i → W2 i i → W3 i i) (hBB : ∀ i, B1 i i → B2 i i → B3 i i) : ∀ p : Ods, p.dg →
  (Ods.ls L1 W1 B1 p → Ods.le L2 W2 B2 p → Ods.ls L3 W3 B3 p) ∧ (Ods.le L1 W1 B1 p → Ods.ls L2 W2 B2 p → Ods.ls L3 W3 B3 p) ∧ (Ods.le L1 W1 B1 p → Ods.le L2 W2 B2 p → Ods.le L3 W3 B3 p) ∧ (Ods.eq W1 B1 p → Ods.eq W2 B2 p → Ods.eq W3 B3 p)
 | .arg i j, hd => by
  rw [Ods.dg] at hd
  subst hd
  simp only [Ods.ls, Ods.le, Ods.eq]
  exact ⟨hLW i, hWL i, hWW i, fun a b => ⟨hWW i a.1 b.1, hBB i a.2 b.2⟩⟩
 | .lex ps, hd => by
  rw [Ods.dg] at hd
  obtain ⟨c1, c2, c3, c4, c5, c6, c7⟩ := ods_comps k1 k2 k3 hLW hWL hWW hBB ps hd
  simp only [Ods.ls, Ods.le, Ods.eq]
  refine ⟨fun a b => b.elim (c1 a) (c2 a), fun a b => a.elim (fun a => c1 a b) (fun a => c3 a b), fun a b => ?_, c4⟩
  rcases a with a | a
  ·exact .inl (b.elim (c1 a) (c2 a))
  ·rcases b with b | b
   ·exact .inl (c3 a b)
   ·exact .inr (c4 a b)
 | .sim ps, hd => by
  rw [Ods.dg] at hd
  obtain ⟨c1, c2, c3, c4, c5, c6, c7⟩ := ods_comps k1 k2 k3 hLW hWL hWW hBB ps hd
  have b1 := ods_basics (B := B1) k1 ps
  have b2 := ods_basics (B := B2) k2 ps
  have b3 := ods_basics (B := B3) k3 ps
  simp only [Ods.ls, Ods.le, Ods.eq]
  exact ⟨fun a b => b3.1.2 ⟨c5 (b1.1.1 a).1 b, c6 (b1.1.1 a).2 b⟩, fun a b => b3.1.2 ⟨c5 a (b2.1.1 b).1, c7 a (b2.1.1 b).2⟩, c5, c4⟩
theorem ods_comps (k1 : ∀ i j, L1 i j → W1 i j) (k2 : ∀ i j, L2 i j → W2 i j) (k3 : ∀ i j, L3 i j → W3 i j) (hLW : ∀ i, L1 i i → W2 i i → L3 i i) (hWL : ∀ i, W1 i i → L2 i i → L3 i i) (hWW : ∀ i, W1 i i → W2 i i → W3 i i) (hBB : ∀ i, B1 i i → B2 i i → B3 i i) : ∀ ps : List Ods, Ods.dgs ps →
  (Ods.lexL L1 W1 B1 ps → Ods.lexL L2 W2 B2 ps → Ods.lexL L3 W3 B3 ps) ∧ (Ods.lexL L1 W1 B1 ps → Ods.eqs W2 B2 ps → Ods.lexL L3 W3 B3 ps) ∧ (Ods.eqs W1 B1 ps → Ods.lexL L2 W2 B2 ps → Ods.lexL L3 W3 B3 ps) ∧ (Ods.eqs W1 B1 ps → Ods.eqs W2 B2 ps → Ods.eqs W3 B3 ps) ∧
  (Ods.les L1 W1 B1 ps → Ods.les L2 W2 B2 ps → Ods.les L3 W3 B3 ps) ∧ (Ods.anyL L1 W1 B1 ps → Ods.les L2 W2 B2 ps → Ods.anyL L3 W3 B3 ps) ∧ (Ods.les L1 W1 B1 ps → Ods.anyL L2 W2 B2 ps → Ods.anyL L3 W3 B3 ps)
 | [], _ => by
  simp only [Ods.lexL, Ods.les, Ods.anyL, Ods.eqs]
  exact ⟨fun h _ => h, fun h _ => h, fun _ h => h, fun _ _ => trivial, fun _ _ => trivial, fun h _ => h, fun _ h => h⟩
 | p :: r, hd => by
  rw [Ods.dgs] at hd
  obtain ⟨d1, d2, d3, d4⟩ := ods_comp k1 k2 k3 hLW hWL hWW hBB p hd.1
  obtain ⟨c1, c2, c3, c4, c5, c6, c7⟩ := ods_comps k1 k2 k3 hLW hWL hWW hBB r hd.2
  obtain ⟨b1, b2, b3, b4⟩ := ods_basic (B := B1) k1 p
  obtain ⟨e1, e2, e3, e4⟩ := ods_basic (B := B2) k2 p
  simp only [Ods.lexL, Ods.les, Ods.anyL, Ods.eqs]
  refine ⟨?_, ?_, ?_, fun a b => ⟨d4 a.1 b.1, c4 a.2 b.2⟩, fun a b => ⟨d3 a.1 b.1, c5 a.2 b.2⟩, ?_, ?_⟩
  ·rintro (a | ⟨a, a'⟩) (b | ⟨b, b'⟩)
   ·exact .inl (d1 a (e1 b))
   ·exact .inl (d1 a (e2 b))
   ·exact .inl (d2 (b2 a) b)
   ·exact .inr ⟨d4 a b, c1 a' b'⟩
  ·rintro (a | ⟨a, a'⟩) ⟨b, b'⟩
   ·exact .inl (d1 a (e2 b))
   ·exact .inr ⟨d4 a b, c2 a' b'⟩
  ·rintro ⟨a, a'⟩ (b | ⟨b, b'⟩)
   ·exact .inl (d2 (b2 a) b)
   ·exact .inr ⟨d4 a b, c3 a' b'⟩
  ·rintro (a | a) ⟨b, b'⟩
   ·exact .inl (d1 a b)
   ·exact .inr (c6 a b')
  ·rintro ⟨a, a'⟩ (b | b)
   ·exact .inl (d2 a b)
   ·exact .inr (c7 a' b)
end
end
theorem hldF_trans {ks : List Int} {fs : List Fact} {o : Ord} {ts us vs : List Raw} {a : Int} (h1 : hldF ks fs o o ts us a) (h2 : hldF ks fs o o us vs 2) : hldF ks fs o o ts vs (if a = 1 then 1 else 2) := by
 obtain ⟨e1, r1⟩ := h1
 obtain ⟨e2, r2⟩ := h2
 rw [chkF_all] at e1 e2
 refine ⟨chkF_all.2 ⟨fun t ht => ?_, e1.2.1, e2.2.2.1, e1.2.2.2⟩, ?_⟩
 ·rw [List.mem_append] at ht
  rcases ht with ht | ht
  ·exact e1.1 t (List.mem_append_left _ ht)
  ·exact e2.1 t (List.mem_append_right _ ht)
 have k1 : ∀ i j, chF ks fs ts us 2 i j → chF ks fs ts us 1 i j := chn_21
 have k2 : ∀ i j, chF ks fs us vs 2 i j → chF ks fs us vs 1 i j := chn_21
 have k3 : ∀ i j, chF ks fs ts vs 2 i j → chF ks fs ts vs 1 i j := chn_21
 have hLW : ∀ i, chF ks fs ts us 2 i i → chF ks fs us vs 1 i i → chF ks fs ts vs 2 i i := fun i a b => chn_trans a b (by decide) (by decide) (.inl (by decide))
 have hWL : ∀ i, chF ks fs ts us 1 i i → chF ks fs us vs 2 i i → chF ks fs ts vs 2 i i := fun i a b => chn_trans a b (by decide) (by decide) (.inr (by decide))
 have hWW : ∀ i, chF ks fs ts us 1 i i → chF ks fs us vs 1 i i → chF ks fs ts vs 1 i i := fun i a b => chn_trans a b (by decide) (by decide) (.inl (by decide))
 have hBB : ∀ i, chB ks fs ts us i i → chB ks fs us vs i i → chB ks fs ts vs i i := fun i a b => chn_trans b a (by decide) (by decide) (.inl (by decide))
 obtain ⟨d1, d2, d3, d4⟩ := ods_comp k1 k2 k3 hLW hWL hWW hBB (odsOf o o) (odsOf_dg o)
 have b1 := ods_basic (B := chB ks fs ts us) k1 (odsOf o o)
 have y : Ods.le (chF ks fs us vs 2) (chF ks fs us vs 1) (chB ks fs us vs) (odsOf o o) := by
  rcases r2 with ⟨e, _⟩ | ⟨_, h⟩ | ⟨e, _⟩
  ·exact absurd e (by decide)
  ·exact h
  ·exact absurd e (by decide)
 rcases r1 with ⟨e, h⟩ | ⟨e, h⟩ | ⟨e, h⟩
 ·rw [if_pos e]; exact .inl ⟨rfl, d1 h y⟩
 ·rw [if_neg (by rw [e]; decide)]; exact .inr (.inl ⟨rfl, d3 h y⟩)
 ·rw [if_neg (by rw [e]; decide)]; exact .inr (.inl ⟨rfl, d3 (b1.2.1 h) y⟩)
end Lfc
namespace Go.Proofs.YtadjpadieljjlaaGreat
open Go.RowKit Go.Maps
structure ThI (w0 w1 w5 : World) (T h n : Nat) (all : List Lfc.Raw) (wr : World) : Prop where
 len : all.length = n
 sz : ∀ t ∈ all, t.size ≤ 1000000
 row : ∃ xs, RowP (fun b => w1.heap.size ≤ b ∧ b ≠ h) wr all xs ∧ CellsAt wr h 0 xs
 blk : ∃ cur, wr.heap[h]? = some (.cells cur 51 (0, 0))
 tape : TapeI T wr
 keep : ∀ b, b < w5.heap.size → b ≠ T → b ≠ h → wr.heap[b]? = w5.heap[b]?
 size : w5.heap.size ≤ wr.heap.size
 bel : Below w0.heap.size w0 wr
theorem ThI.start {w0 w1 w4 w5 : World} {T n : Nat} (hw : w4.alloc (.cells (zeroRow n).toArray 51) = w5) (hT : TapeI T w4) (hB : Below w0.heap.size w0 w4) : ThI w0 w1 w5 T w4.heap.size n (List.replicate n zeroT) w5 := by
 have hb : Below w4.heap.size w4 w5 := by rw [← hw]; exact (Below.refl _ _).alloc (Nat.le_refl _) _
 refine ⟨by simp, fun t h => ?_, ⟨zeroRow n, zeroRow_row _ _ n, by rw [← hw]; exact cellsAt_made _ _ _⟩, ⟨_, by rw [← hw]; exact heap_alloc_new _ _⟩, hT.below hb, fun _ _ _ _ => rfl, Nat.le_refl _, hB.trans (hb.mono hB.size)⟩
 obtain rfl := (List.mem_replicate.1 h).2
 rw [zeroT, Lfc.Raw.size, Lfc.Raw.sizes]
 omega
theorem ThI.put {w0 w1 w5 wr : World} {T h n k : Nat} {all : List Lfc.Raw} {t : Lfc.Raw} {v0 v1 v2 v3 : Value} (H : ThI w0 w1 w5 T h n all wr) (h0T : w0.heap.size ≤ T) (hTh : T < h) (hk : k < n) (hz : t.size ≤ 1000000) (ht : TreeP (fun b => w1.heap.size ≤ b ∧ b ≠ h) wr t v0 v1 v2 v3) :
  ∃ s1 s2 s3 s4 a0 a1 a2 a3, wr.setCell ⟨h, k * 4, none⟩ v0 = s1 ∧ s1.setCell ⟨h, k * 4 + 1, none⟩ v1 = s2 ∧ s2.setCell ⟨h, k * 4 + 2, none⟩ v2 = s3 ∧ s3.setCell ⟨h, k * 4 + 3, none⟩ v3 = s4 ∧
  (wr.cell? ⟨h, k * 4, none⟩ = some a0 ∧ s1.cell? ⟨h, k * 4 + 1, none⟩ = some a1 ∧ s2.cell? ⟨h, k * 4 + 2, none⟩ = some a2 ∧ s3.cell? ⟨h, k * 4 + 3, none⟩ = some a3) ∧
  (wr.frozen? ⟨h, k * 4, none⟩ = false ∧ s1.frozen? ⟨h, k * 4 + 1, none⟩ = false ∧ s2.frozen? ⟨h, k * 4 + 2, none⟩ = false ∧ s3.frozen? ⟨h, k * 4 + 3, none⟩ = false) ∧
  ThI w0 w1 w5 T h n (all.set k t) s4 ∧ Oth h wr s4 := by
 obtain ⟨xs, hrow, hce⟩ := H.row
 obtain ⟨cur, hcur⟩ := H.blk
 obtain ⟨s1, s2, s3, s4, a0, a1, a2, a3, g1, g2, g3, g4, hr, hf, hc4, ho4, hcur4⟩ := tput4row (i := k) hcur hce (by rw [hrow.len, H.len]; omega) v0 v1 v2 v3
 refine ⟨s1, s2, s3, s4, a0, a1, a2, a3, g1, g2, g3, g4, hr, hf, ⟨by simp [H.len], fun u hu => ?_, ⟨_, RowP.set (TreeP.keep (fun b hb hlt => ho4.block b hlt (fun e => hb.2 (Option.some.inj e))) ho4.size (fun _ _ h => h) _ _ _ _ _ ht) k (by rw [H.len]; exact hk) (RowP.keep (fun b hb hlt => ho4.block b hlt (fun e => hb.2 (Option.some.inj e))) ho4.size (fun _ _ h => h) hrow), hc4⟩, hcur4, H.tape.oth hTh ho4, fun b hb h1 h2 => (ho4.block b (Nat.lt_of_lt_of_le hb H.size) (fun e => h2 (Option.some.inj e))).trans (H.keep b hb h1 h2), Nat.le_trans H.size ho4.size, Oth.below H.bel ho4 (by omega) H.bel.size⟩, ho4⟩
 rcases List.mem_or_eq_of_mem_set hu with h1 | rfl
 ·exact H.sz u h1
 ·exact hz
theorem ThI.othT {w0 w1 w5 wr w' : World} {T h n : Nat} {all : List Lfc.Raw} (H : ThI w0 w1 w5 T h n all wr) (h0T : w0.heap.size ≤ T) (hT : T < w1.heap.size) (hTh : T < h) (ho : Oth T wr w') (ht : TapeI T w') : ThI w0 w1 w5 T h n all w' := by
 obtain ⟨xs, hrow, hce⟩ := H.row
 obtain ⟨cur, hcur⟩ := H.blk
 have hl := lt_of_block hcur
 refine ⟨H.len, H.sz, ⟨xs, RowP.keep (fun b hb hlt => ho.block b hlt (fun e => by have := Option.some.inj e; have := hb.1; omega)) ho.size (fun _ _ h => h) hrow, fun j u hj => (ho.cell (p := ⟨h, 0 + j, none⟩) hl (by show h ≠ T; omega)).trans (hce j u hj)⟩, ⟨cur, ho.heap hcur (by omega)⟩, ht, fun b hb h1 h2 => (ho.block b (Nat.lt_of_lt_of_le hb H.size) (fun e => h1 (Option.some.inj e))).trans (H.keep b hb h1 h2), Nat.le_trans H.size ho.size, Oth.below H.bel ho h0T H.bel.size⟩
theorem ThI.lt {w0 w1 w5 wr : World} {T h n : Nat} {all : List Lfc.Raw} (H : ThI w0 w1 w5 T h n all wr) : h < wr.heap.size := by
 obtain ⟨cur, hcur⟩ := H.blk
 exact lt_of_block hcur
theorem ThI.trees {w0 w1 w5 wr : World} {T h n : Nat} {all : List Lfc.Raw} (H : ThI w0 w1 w5 T h n all wr) : TreesAt wr (some ⟨h, 0, none⟩) all := by
 obtain ⟨xs, hrow, hce⟩ := H.row
 exact fun _ => ⟨h, 0, rfl, H.lt, TreesP.toC _ _ _ (hrow.lie hce)⟩
theorem two_terms {q : Nat → Prop} {W : World} {t u : Lfc.Raw} {v0 v1 v2 v3 u0 u1 u2 u3 : Value} (hq : ∀ b, W.heap.size ≤ b → q b) (ht : TreeP q W t v0 v1 v2 v3) (hu : TreeP q W u u0 u1 u2 u3) :
  TreeP q (W.alloc (.cells #[v0, v1, v2, v3, u0, u1, u2, u3] 51)) (.node 4 [99] 0 [t, u]) (.int .i64 4) (S [99]) (.int .i64 0) (.slice (some ⟨W.heap.size, 0, none⟩) 2 2) := by
 have hb : Below W.heap.size W (W.alloc (.cells #[v0, v1, v2, v3, u0, u1, u2, u3] 51)) := (Below.refl _ _).alloc (Nat.le_refl _) _
 have ht' := TreeP.keep (q' := q) (fun b _ hlt => hb.block b hlt) hb.size (fun _ _ h => h) _ _ _ _ _ ht
 have hu' := TreeP.keep (q' := q) (fun b _ hlt => hb.block b hlt) hb.size (fun _ _ h => h) _ _ _ _ _ hu
 have hrow : RowP q (W.alloc (.cells #[v0, v1, v2, v3, u0, u1, u2, u3] 51)) [t, u] [v0, v1, v2, v3, u0, u1, u2, u3] := by
  rw [RowP]
  refine ⟨v0, v1, v2, v3, [u0, u1, u2, u3], rfl, ht', ?_⟩
  rw [RowP]
  exact ⟨u0, u1, u2, u3, [], rfl, hu', by rw [RowP]⟩
 have hc : CellsAt (W.alloc (.cells #[v0, v1, v2, v3, u0, u1, u2, u3] 51)) W.heap.size 0 [v0, v1, v2, v3, u0, u1, u2, u3] := cellsAt_made W [v0, v1, v2, v3, u0, u1, u2, u3] _
 rw [TreeP]
 refine ⟨rfl, rfl, by decide, rfl, _, _, rfl, Nat.le_refl _, fun _ => ⟨W.heap.size, 0, rfl, by simp, hq _ (Nat.le_refl _), hrow.lie hc⟩⟩
theorem TreesAtP.at3 {q : Nat → Prop} {w : World} {A : Option Addr} {ts : List Lfc.Raw} (h : TreesAtP q w A ts) : TreesAt w A ts := fun hne => by
 obtain ⟨b, o, hA, hlt, hb, h⟩ := h hne
 exact ⟨b, o, hA, hlt, TreesP.toC ts b o h⟩
theorem QuP.three {q : Nat → Prop} {w W : World} {fs : List Lfc.Fact} {F : Option Addr} {o p : Lfc.Ord} {vo vp : Value} {ts us all : List Lfc.Raw} {L R : Option Addr} {cl cr h : Nat} {ks : List Int} {A0 : Option Addr} (H : QuP q w fs F o p vo vp ts us L R cl cr ks A0) (hk : ∀ b, q b → b < w.heap.size → W.heap[b]? = w.heap[b]?) (hs : w.heap.size ≤ W.heap.size)
  (hl : all.length = us.length) (hz : ∀ t ∈ all, t.size ≤ 1000000) (ht : TreesAt W (some ⟨h, 0, none⟩) all) :
  QuO W fs F o o vo vo ts us L R cl cr ks A0 ∧ QuO W fs F o o vo vo us all R (some ⟨h, 0, none⟩) cr us.length ks A0 ∧ QuO W fs F o o vo vo ts all L (some ⟨h, 0, none⟩) cl us.length ks A0 := by
 have hh := H.keep (q' := fun _ => True) hk hs (fun _ _ _ => trivial)
 have hn1 := H.n
 have hn2 := H.eq
 have hfl := H.fl
 have hkl := H.kl
 have hos := H.os
 have z1 : ∀ t ∈ ts, t.size ≤ 1000000 := fun t h => by have := H.zt t h; omega
 have z2 : ∀ t ∈ us, t.size ≤ 1000000 := fun t h => by have := (H.zu t h).1; omega
 have hfz : ∀ f ∈ fs, f.l.size ≤ 1000000 ∧ f.r.size ≤ 1000000 := fun f hf => by
  have := H.gf f hf
  have h2 := this.2.2.1
  omega
 have app : ∀ {xs ys : List Lfc.Raw}, (∀ t ∈ xs, t.size ≤ 1000000) → (∀ t ∈ ys, t.size ≤ 1000000) → ∀ t ∈ xs ++ ys, t.size ≤ 1000000 := fun h1 h2 t h => (List.mem_append.1 h).elim (h1 t) (h2 t)
 refine ⟨⟨by omega, H.rl, hfz, hh.ff, by omega, by omega, hh.vo.toV, hh.vo.toV, by omega, by omega, app z1 z2, H.l, H.r, hh.tt.at3, hh.uu.at3, by omega, hh.kk⟩,
  ⟨by omega, H.rl, hfz, hh.ff, by omega, by omega, hh.vo.toV, hh.vo.toV, by omega, by omega, app z2 hz, H.r, fun e => by simp at e, hh.uu.at3, ht, by omega, hh.kk⟩,
  ⟨by omega, H.rl, hfz, hh.ff, by omega, by omega, hh.vo.toV, hh.vo.toV, by omega, by omega, app z1 hz, H.l, fun e => by simp at e, hh.tt.at3, ht, by omega, hh.kk⟩⟩
end Go.Proofs.YtadjpadieljjlaaGreat
namespace Go.Proofs.YtadjpadieljjlaaGreat
open Go.RowKit Go.Maps
attribute [local go_sem ↓] Go.wp_at_zero Go.wp_at_succ
set_option maxRecDepth 100000 in
set_option maxHeartbeats 16000000 in
theorem orderTransitive_walk (v0 : Value) (zs : List Int) (w : World) (i0 : IntsAt w v0 zs) :
  Calls Tryz.prog 7 #[v0] w fun e w' => e = .returned (.bool true) ∧ Below w.heap.size w w' := by
 obtain ⟨AT, cT, rfl⟩ : ∃ A c, v0 = .slice A zs.length c := by obtain ⟨A, c, h, _⟩ := i0; exact ⟨A, c, h⟩
 obtain ⟨w1, hw1⟩ : ∃ w1, w.alloc (.cells #[.slice AT zs.length cT, .int .i64 0] 33) = w1 := ⟨_, rfl⟩
 have b1 : Below w.heap.size w w1 := by rw [← hw1]; exact (Below.refl _ _).alloc (Nat.le_refl _) _
 have t1 := tape_new2 i0
 rw [hw1] at t1
 have hTw : w.heap.size < w1.heap.size := t1.lt
 have B1 := Lib.hid b1
 have T1 := Lib.hid t1
 clear t1 b1 i0
 go_enter Tryz.func7, Tryz.ntmps7
 go_wp2_with fail
 refine (mAsk_any w.heap.size w1 T1.out).mono ?_
 rintro e w2 ⟨⟨fs, F, f0, rel, o, p, k1, a1, k2, a2, A1, A2, l1, c1, l2, c2, ts, us, L, R, cl, cr, ks, A0, c0, rfl, hrel, hcap, hQ⟩, T2, o2⟩
 obtain ⟨w3, hw3⟩ : ∃ w3, w2.alloc (.cells #[.slice F fs.length f0, .int .i64 rel, .int .i64 k1, .int .i64 a1, .slice A1 l1 c1, .int .i64 k2, .int .i64 a2, .slice A2 l2 c2, .slice L ts.length cl, .slice R us.length cr, .slice A0 ks.length c0] 29) = w3 := ⟨_, rfl⟩
 have b23 : Below w2.heap.size w2 w3 := by rw [← hw3]; exact (Below.refl _ _).alloc (Nat.le_refl _) _
 have q3 : w3.heap[w2.heap.size]? = some (.cells #[.slice F fs.length f0, .int .i64 rel, .int .i64 k1, .int .i64 a1, .slice A1 l1 c1, .int .i64 k2, .int .i64 a2, .slice A2 l2 c2, .slice L ts.length cl, .slice R us.length cr, .slice A0 ks.length c0] 29 (0, 0)) := by rw [← hw3]; exact heap_alloc_new _ _
 obtain ⟨s4, s5, s6, h4', h5', h6', ⟨y5, y6, y7⟩, ⟨ff5, ff6, ff7⟩, hq6, hot6⟩ := put11p q3 (.int .i64 k1) (.int .i64 a1) (.slice A1 l1 c1)
 have s12 := o2.size
 have s36 := hot6.size
 have s23 := b23.size
 have lg6 := lt_of_block hq6
 have y2 := (Lib.cell_of_heap q3 2 : w3.cell? ⟨w2.heap.size, 2, none⟩ = some (.int .i64 k1))
 have y3 := (Lib.cell_of_heap q3 3 : w3.cell? ⟨w2.heap.size, 3, none⟩ = some (.int .i64 a1))
 have y4 := (Lib.cell_of_heap q3 4 : w3.cell? ⟨w2.heap.size, 4, none⟩ = some (.slice A1 l1 c1))
 have HQ := hQ.keep (w' := s6) (q' := fun b => w1.heap.size ≤ b ∧ b < w2.heap.size) (fun b _ hlt => (hot6.block b (by omega) (fun e => by have := Option.some.inj e; omega)).trans (b23.block b hlt)) (by omega) (fun b hlt hb => ⟨hb, hlt⟩)
 have T6 := Lib.hid ((T2.below b23).oth (by omega) hot6)
 have hrest := (⟨hQ.n, hQ.n1, hQ.eq, hQ.kl⟩ : ts.length ≤ 3 ∧ 1 ≤ ts.length ∧ us.length = ts.length ∧ ks.length ≤ 5)
 have B6 : Hid (Below w.heap.size w s6) := Lib.hid (Oth.below ((Oth.below B1.out o2 (Nat.le_refl _) (by omega)).trans (b23.mono (by omega))) hot6 (by omega) (by omega))
 obtain ⟨nf, hnf⟩ : ∃ n, fs.length = n := ⟨_, rfl⟩
 obtain ⟨n', hn'⟩ : ∃ n, ts.length = n := ⟨_, rfl⟩
 obtain ⟨n, hn⟩ : ∃ n, us.length = n := ⟨_, rfl⟩
 obtain ⟨nk, hnk⟩ : ∃ n, ks.length = n := ⟨_, rfl⟩
 rw [hn, hn', hnk] at hrest
 obtain ⟨hn3, hn1, rfl, hk5⟩ := hrest
 have y9 := (Lib.cell_of_heap hq6 9 : s6.cell? ⟨w2.heap.size, 9, none⟩ = some (.slice R us.length cr))
 have HQH := Lib.hid HQ
 rw [hn, hn', hnf, hnk] at hq6 hw3 ⊢
 rw [hn] at y9
 have QH := Lib.hid hq6
 have H3 := Lib.hid hw3
 have LN := Lib.hid (show fs.length = nf ∧ ts.length = n ∧ us.length = n ∧ ks.length = nk from ⟨hnf, hn', hn, hnk⟩)
 obtain ⟨w5, hw5⟩ : ∃ w5, s6.alloc (.cells (zeroRow n).toArray 51) = w5 := ⟨_, rfl⟩
 have b5 : Below s6.heap.size s6 w5 := by rw [← hw5]; exact (Below.refl _ _).alloc (Nat.le_refl _) _
 have l5 : s6.heap.size < w5.heap.size := by rw [← hw5]; simp
 have I0 : Hid (∃ all, ThI w w1 w5 w.heap.size s6.heap.size n all w5) := Lib.hid ⟨_, ThI.start hw5 T6.out B6.out⟩
 have hTh : w.heap.size < s6.heap.size := by omega
 have hmk := fun W => makeTerms n (by omega) W
 have QK : Hid (∀ W all, ThI w w1 w5 w.heap.size s6.heap.size n all W → W.heap[w2.heap.size]? = some (.cells #[.slice F nf f0, .int .i64 rel, .int .i64 k1, .int .i64 a1, .slice A1 l1 c1, .int .i64 k1, .int .i64 a1, .slice A1 l1 c1, .slice L n cl, .slice R n cr, .slice A0 nk c0] 29 (0, 0))) := Lib.hid (fun W all H => (H.keep _ (by omega) (by omega) (by omega)).trans ((b5.block _ lg6).trans QH.out))
 have KB : Hid (∀ W all, ThI w w1 w5 w.heap.size s6.heap.size n all W → ∀ b, (w1.heap.size ≤ b ∧ b < w2.heap.size) → b < s6.heap.size → W.heap[b]? = s6.heap[b]?) := Lib.hid (fun W all H b hb hlt => (H.keep b (by omega) (by omega) (by omega)).trans (b5.block b hlt))
 have RT : Hid (∀ k, k < n → ∃ rb ro kx nx px xs Bx cx, R = some ⟨rb, ro, none⟩ ∧ (Lfc.Raw.node kx nx px xs).size ≤ 40 ∧ ∀ W all, ThI w w1 w5 w.heap.size s6.heap.size n all W →
   (W.cell? ⟨rb, ro + k * 4, none⟩ = some (.int .i64 kx) ∧ W.cell? ⟨rb, ro + k * 4 + 1, none⟩ = some (S nx) ∧ W.cell? ⟨rb, ro + k * 4 + 2, none⟩ = some (.int .i64 px) ∧ W.cell? ⟨rb, ro + k * 4 + 3, none⟩ = some (.slice Bx xs.length cx)) ∧
   TreeP (fun b => w1.heap.size ≤ b ∧ b ≠ s6.heap.size) W (.node kx nx px xs) (.int .i64 kx) (S nx) (.int .i64 px) (.slice Bx xs.length cx)) := Lib.hid (fun k hk => by
  have hku : k < us.length := by rw [LN.out.2.2.1]; exact hk
  obtain ⟨rb, ro, kx, nx, px, xs, Bx, cx, hR, hlt, hqb, ht, d0, d1, d2, d3, hT⟩ := HQH.out.uu.at_ hku
  refine ⟨rb, ro, kx, nx, px, xs, Bx, cx, hR, ?_, fun W all H => ?_⟩
  ·rw [← ht]; exact (HQH.out.zu _ (List.getElem_mem _)).1
  have hb := fun j => World.cell?_of_block (a := ⟨rb, j, none⟩) (KB.out W all H rb hqb hlt)
  refine ⟨⟨(hb _).trans d0, (hb _).trans d1, (hb _).trans d2, (hb _).trans d3⟩, ?_⟩
  have hsz := H.size
  obtain ⟨u0, u1, u2, u3, e, h⟩ := hT
  injection e with e
  simp only [Array.mk.injEq, List.cons.injEq, and_true] at e
  obtain ⟨rfl, rfl, rfl, rfl⟩ := e
  exact TreeP.keep (fun b hb hlt => KB.out W all H b hb hlt) (by omega) (fun b _ hb => ⟨hb.1, by have := hb.2; omega⟩) _ _ _ _ _ h)
 have H5 := Lib.hid hw5
 have B5 : Hid (Below w.heap.size w w5) := Lib.hid (B6.out.trans (b5.mono B6.out.size))
 have HRL := Lib.hid hrel
 clear hnf hn hn' hnk hcap hQ HQ q3 hq6 hot6 b23 hw3 hw1 T1 T2 o2 B1 T6 b5 hw5 hrel B6 QH
 go_upto_region 3 with fail
 rw [H3.out]
 clear H3
 go_wp2_with fail
 rw [H5.out]
 clear H5 hmk y2 y3 y4 y5 y6 y7 y9 ff5 ff6 ff7 h4' h5' h6'
 go_loopw [6] (fun i wr => ∃ k : Nat, k ≤ n ∧ i = .int .i64 (k : Int) ∧ Hid (∃ all, ThI w w1 w5 w.heap.size s6.heap.size n all wr)) (fun i _ => n - (intOf i).toNat)
 case atStart => exact ⟨0, by omega, rfl, I0⟩
 case round =>
  clear I0
  obtain ⟨k, hk, rfl, hI⟩ := hrel
  obtain ⟨all, hI⟩ := hI.out
  have HI := Lib.hid hI
  have q := QK.out _ _ hI
  by_cases hlt : k < n
  ·have hlt1 : (k : Int) < (n : Int) := by omega
   have hi0 : (0 : Int) ≤ (k : Int) := by omega
   have y9 := (Lib.cell_of_heap q 9 : wr.cell? ⟨w2.heap.size, 9, none⟩ = some (.slice R n cr))
   obtain ⟨rb, ro, kx, nx, px, xs, Bx, cx, rfl, hzx, hRT⟩ := RT.out k hlt
   have RK := Lib.hid hRT
   obtain ⟨⟨d0, d1, d2, d3⟩, hPX⟩ := hRT _ _ hI
   have SF : Hid (∀ W all, ThI w w1 w5 w.heap.size s6.heap.size n all W → ((W.cell? ⟨w2.heap.size, 9, none⟩ = some (.slice (some ⟨rb, ro, none⟩) n cr) ∧ W.cell? ⟨w2.heap.size, 10, none⟩ = some (.slice A0 nk c0)) ∧ (W.cell? ⟨rb, ro + k * 4, none⟩ = some (.int .i64 kx) ∧ W.cell? ⟨rb, ro + k * 4 + 1, none⟩ = some (S nx) ∧ W.cell? ⟨rb, ro + k * 4 + 2, none⟩ = some (.int .i64 px) ∧ W.cell? ⟨rb, ro + k * 4 + 3, none⟩ = some (.slice Bx xs.length cx)))) := Lib.hid (fun W all H => ⟨⟨Lib.cell_of_heap (QK.out _ _ H) 9, Lib.cell_of_heap (QK.out _ _ H) 10⟩, (RK.out _ _ H).1⟩)
   have UTK : Hid (∀ W all, ThI w w1 w5 w.heap.size s6.heap.size n all W → TreeP (fun b => w1.heap.size ≤ b ∧ b ≠ s6.heap.size) W (.node kx nx px xs) (.int .i64 kx) (S nx) (.int .i64 px) (.slice Bx xs.length cx)) := Lib.hid (fun W all H => (RK.out _ _ H).2)
   obtain ⟨s1, s2, s3, s7, x0, x1, x2, x3, g1, g2, g3, g4, ⟨r0, r1, r2, r3⟩, ⟨t0, t1, t2, t3⟩, h7, _⟩ := hI.put (Nat.le_refl _) hTh hlt (by omega) hPX
   have H7 := Lib.hid h7
   clear q hI hPX hRT h7 HI
   go_wp2_with fail
   clear d0 d1 d2 d3 y9 r0 r1 r2 r3 t0 t1 t2 t3 g1 g2 g3 g4
   refine (tapeI_next w.heap.size 2 s7 (by omega) (by omega) H7.out.tape).mono ?_
   rintro e w6 ⟨⟨r, hr, rfl⟩, T6, o6⟩
   have H6 := Lib.hid (H7.out.othT (Nat.le_refl _) hTw hTh o6 T6)
   clear T6 o6 H7
   go_upto_if 44 with fail
   by_cases hr0 : r = 0
   ·subst hr0
    go_upto_region 10 with fail
    replace H6 := Lib.hid (H6.out.othT (Nat.le_refl _) hTw hTh (Oth.refl _ w6).drew (H6.out.tape.below (Below.refl w6.heap.size w6).drew))
    refine wp_region_held_drew (S := fun W => ((W.cell? ⟨w2.heap.size, 9, none⟩ = some (.slice (some ⟨rb, ro, none⟩) n cr) ∧ W.cell? ⟨w2.heap.size, 10, none⟩ = some (.slice A0 nk c0)) ∧ (W.cell? ⟨rb, ro + k * 4, none⟩ = some (.int .i64 kx) ∧ W.cell? ⟨rb, ro + k * 4 + 1, none⟩ = some (S nx) ∧ W.cell? ⟨rb, ro + k * 4 + 2, none⟩ = some (.int .i64 px) ∧ W.cell? ⟨rb, ro + k * 4 + 3, none⟩ = some (.slice Bx xs.length cx)))) (by kernel_rfl) ?_ (fun hHeld => ?_)
    ·exact SF.out _ _ H6.out
    obtain ⟨wc0, hwc0⟩ : ∃ wc0, w6.drew = wc0 := ⟨_, rfl⟩
    rw [hwc0] at H6 hHeld ⊢
    clear hwc0
    refine tk 0 ?_
    refine tk 1 ?_
    refine tk 2 ?_
    refine tk 3 ?_
    refine tk 4 ?_
    refine tk 5 ?_
    refine tk 6 ?_
    refine tk 7 ?_
    refine tk 8 ?_
    refine tk 9 ?_
    refine tk 10 ?_
    refine wpAnyH_ready (rs := [11]) (by kernel_rfl) (by simp) ?_
    refine AllReadyH.cons rfl (fun K hK => ?_) ?_
    ·go_simp
     go_at_call 28
     refine (mObj_any 1 (by decide) w.heap.size nk wc0 (by omega) H6.out.tape).mono ?_
     rintro e w7 ⟨⟨t9, v9, rfl, hv9, hz9, _⟩, T7, o7⟩
     obtain ⟨k9, n9, p9, xs9⟩ := t9
     obtain ⟨A9, c9, rfl, hp9⟩ := hv9.openT
     have H7 := Lib.hid (H6.out.othT (Nat.le_refl _) hTw hTh o7 T7)
     have P9 : Hid (TreeP (fun b => w1.heap.size ≤ b ∧ b ≠ s6.heap.size) w7 (.node k9 n9 p9 xs9) (.int .i64 k9) (S n9) (.int .i64 p9) (.slice A9 xs9.length c9)) := Lib.hid (TreeP.keep (fun _ _ _ => rfl) (Nat.le_refl _) (fun b _ hb => by have hb : wc0.heap.size ≤ b := hb; have := H6.out.size; exact ⟨by omega, by omega⟩) _ _ _ _ _ hp9)
     have PX := UTK.out _ _ H7.out
     have H8 := Lib.hid (H7.out.othT (Nat.le_refl _) hTw hTh (Oth.of_below ((Below.refl w7.heap.size w7).alloc (Nat.le_refl _) (.cells #[.int .i64 kx, S nx, .int .i64 px, .slice Bx xs.length cx, .int .i64 k9, S n9, .int .i64 p9, .slice A9 xs9.length c9] 51))) (H7.out.tape.below ((Below.refl w7.heap.size w7).alloc (Nat.le_refl _) _)))
     have P8 := Lib.hid (two_terms (q := (fun b => w1.heap.size ≤ b ∧ b ≠ s6.heap.size)) (fun b hb => by have := H7.out.size; exact ⟨by omega, by omega⟩) PX P9.out)
     have hz8 : (Lfc.Raw.node 4 [99] 0 [.node kx nx px xs, .node k9 n9 p9 xs9]).size ≤ 1000000 := by
      have e : 2 ^ (1 + 1) = 4 := rfl
      rw [e] at hz9
      simp only [Lfc.Raw.size, Lfc.Raw.sizes] at hz9 hzx ⊢
      omega
     refine hK.out _ _ ?_ (fun hHeld => ?_)
     ·(try dsimp only)
      exact SF.out _ _ H7.out
     clear hK K
     refine nrm ?_
     refine wpAnyH_ready (rs := [12]) (by kernel_rfl) (by simp) ?_
     refine AllReadyH.cons rfl (fun K hK => ?_) ?_
     ·go_simp
      refine hK.out _ _ ?_ (fun hHeld => ?_)
      ·(try dsimp only)
       exact SF.out _ _ H8.out
      clear hK K
      refine nrm ?_
      refine tk 13 ?_
      clear hv9 hp9 T7 o7 P9 PX H7
      obtain ⟨w8, hw8⟩ : ∃ w8, (w7.alloc (.cells #[.int .i64 kx, S nx, .int .i64 px, .slice Bx xs.length cx, .int .i64 k9, S n9, .int .i64 p9, .slice A9 xs9.length c9] 51)) = w8 := ⟨_, rfl⟩
      rw [hw8] at H8 P8 hHeld ⊢
      clear hw8
      obtain ⟨s1, s2, s3, s4, x0, x1, x2, x3, g1, g2, g3, g4, ⟨r0, r1, r2, r3⟩, ⟨t0, t1, t2, t3⟩, h9, _⟩ := H8.out.put (Nat.le_refl _) hTh hlt hz8 P8.out
      have H9 := Lib.hid h9
      have HN : Hid (∃ all, ThI w w1 w5 w.heap.size s6.heap.size n all s4) := Lib.hid ⟨_, h9⟩
      clear h9
      refine tk 14 ?_
      refine wpAnyH_ready (rs := [15]) (by kernel_rfl) (by simp) ?_
      refine AllReadyH.cons rfl (fun K hK => ?_) ?_
      ·go_simp
       refine hK.out _ _ ?_ (fun hHeld => ?_)
       ·(try dsimp only)
        exact SF.out _ _ H9.out
       clear hK K
       refine nrm ?_
       refine wpAnyH_done (by kernel_rfl) ?_ _
       go_wp2_with fail
       go_roundw
       case rel => exact ⟨k + 1, by omega, by go_num, HN⟩
       case measure => simp [intOf]; omega
      exact AllReadyH.nil
     exact AllReadyH.nil
    exact AllReadyH.nil
   ·have hr1 : ((r : Int) == 0) = false := by simp; omega
    have HN : Hid (∃ all, ThI w w1 w5 w.heap.size s6.heap.size n all w6) := Lib.hid ⟨_, H6.out⟩
    clear hr0
    go_wp2_with fail
    go_roundw
    case rel => exact ⟨k + 1, by omega, by go_num, HN⟩
    case measure => simp [intOf]; omega
  ·obtain rfl : k = n := by omega
   obtain ⟨y0, y1, y2, y3, y4, y5, y6, y7, y8, y9, y10⟩ := cells11q q
   have hsz := HI.out.size
   have l01 := HRL
   have hh := HQH.out.keep (q' := fun _ => True) (fun b hb hlt => KB.out _ _ hI b hb hlt) (by omega) (fun _ _ _ => trivial)
   have hh2 : QuP (fun _ => True) wr fs F o o (.agg #[.int .i64 k1, .int .i64 a1, .slice A1 l1 c1]) (.agg #[.int .i64 k1, .int .i64 a1, .slice A1 l1 c1]) ts us L R cl cr ks A0 := { hh with ps := hh.os, vp := hh.vo }
   have CL := Lib.hid (oLight_any _ fs F o o f0 rel k1 a1 k1 a1 A1 A1 l1 c1 l1 c1 ts us L R cl cr ks A0 c0 wr hh2)
   have Q3 : Hid (∀ W, Below wr.heap.size wr W → QuO W fs F o o (.agg #[.int .i64 k1, .int .i64 a1, .slice A1 l1 c1]) (.agg #[.int .i64 k1, .int .i64 a1, .slice A1 l1 c1]) ts us L R cl cr ks A0 ∧ QuO W fs F o o (.agg #[.int .i64 k1, .int .i64 a1, .slice A1 l1 c1]) (.agg #[.int .i64 k1, .int .i64 a1, .slice A1 l1 c1]) us all R (some ⟨s6.heap.size, 0, none⟩) cr us.length ks A0 ∧ QuO W fs F o o (.agg #[.int .i64 k1, .int .i64 a1, .slice A1 l1 c1]) (.agg #[.int .i64 k1, .int .i64 a1, .slice A1 l1 c1]) ts all L (some ⟨s6.heap.size, 0, none⟩) cl us.length ks A0) := Lib.hid (fun W hb =>
    hh.three (fun b _ hlt => hb.block b hlt) hb.size (by rw [hI.len, LN.out.2.2.1]) hI.sz (hI.trees.below hb))
   have hla : all.length = k := hI.len
   have C1 : Hid (∀ W r, Below wr.heap.size wr W → (r = 1 ∨ r = 2 ∨ r = 3) → Calls Tryz.prog 16 #[.slice F nf f0, .int .i64 r, .agg #[.int .i64 k1, .int .i64 a1, .slice A1 l1 c1], .slice L k cl, .agg #[.int .i64 k1, .int .i64 a1, .slice A1 l1 c1], .slice R k cr, .slice A0 nk c0] W (HldF W (Lfc.chkF fs o o ts us) (Lfc.hldF ks fs o o ts us r))) := Lib.hid (fun W r hb hr => by
    have := oHoldsF_any fs F o o _ _ ts us L R f0 cl cr c0 ks A0 r W (Q3.out W hb).1 hr
    rwa [LN.out.1, LN.out.2.1, LN.out.2.2.1, LN.out.2.2.2] at this)
   have C2 : Hid (∀ W r, Below wr.heap.size wr W → (r = 1 ∨ r = 2 ∨ r = 3) → Calls Tryz.prog 16 #[.slice F nf f0, .int .i64 r, .agg #[.int .i64 k1, .int .i64 a1, .slice A1 l1 c1], .slice R k cr, .agg #[.int .i64 k1, .int .i64 a1, .slice A1 l1 c1], .slice (some ⟨s6.heap.size, 0, none⟩) k k, .slice A0 nk c0] W (HldF W (Lfc.chkF fs o o us all) (Lfc.hldF ks fs o o us all r))) := Lib.hid (fun W r hb hr => by
    have := oHoldsF_any fs F o o _ _ us all R (some ⟨s6.heap.size, 0, none⟩) f0 cr us.length c0 ks A0 r W (Q3.out W hb).2.1 hr
    rwa [LN.out.1, LN.out.2.2.1, LN.out.2.2.2, hla] at this)
   have C3 : Hid (∀ W r, Below wr.heap.size wr W → (r = 1 ∨ r = 2 ∨ r = 3) → Calls Tryz.prog 16 #[.slice F nf f0, .int .i64 r, .agg #[.int .i64 k1, .int .i64 a1, .slice A1 l1 c1], .slice L k cl, .agg #[.int .i64 k1, .int .i64 a1, .slice A1 l1 c1], .slice (some ⟨s6.heap.size, 0, none⟩) k k, .slice A0 nk c0] W (HldF W (Lfc.chkF fs o o ts all) (Lfc.hldF ks fs o o ts all r))) := Lib.hid (fun W r hb hr => by
    have := oHoldsF_any fs F o o _ _ ts all L (some ⟨s6.heap.size, 0, none⟩) f0 cl us.length c0 ks A0 r W (Q3.out W hb).2.2 hr
    rwa [LN.out.1, LN.out.2.1, LN.out.2.2.1, LN.out.2.2.2, hla] at this)
   have QC : Hid (∀ W, Below wr.heap.size wr W → W.heap[w2.heap.size]? = some (.cells #[.slice F nf f0, .int .i64 rel, .int .i64 k1, .int .i64 a1, .slice A1 l1 c1, .int .i64 k1, .int .i64 a1, .slice A1 l1 c1, .slice L k cl, .slice R k cr, .slice A0 nk c0] 29 (0, 0))) := Lib.hid (fun W hb => (hb.block _ (by omega)).trans q)
   have UP : Hid (∀ W, Below wr.heap.size wr W → Below w.heap.size w W) := Lib.hid (fun W hb => hI.bel.trans (hb.mono hI.bel.size))
   have TR : Hid (∀ a, Lfc.hldF ks fs o o ts us a → Lfc.hldF ks fs o o us all 2 → Lfc.hldF ks fs o o ts all (if a = 1 then 1 else 2)) := Lib.hid (fun a h1 h2 => Lfc.hldF_trans h1 h2)
   have Z1 : Hid (∀ a, Lfc.hldF ks fs o o ts us a → Lfc.chkF fs o o ts us = 0) := Lib.hid (fun a h => h.1)
   have Z2 : Hid (∀ a, Lfc.hldF ks fs o o us all a → Lfc.chkF fs o o us all = 0) := Lib.hid (fun a h => h.1)
   have Z3 : Hid (∀ a, Lfc.hldF ks fs o o ts all a → Lfc.chkF fs o o ts all = 0) := Lib.hid (fun a h => h.1)
   rw [LN.out.1, LN.out.2.1, LN.out.2.2.1, LN.out.2.2.2] at CL
   obtain ⟨z1, hz1⟩ : ∃ z, Lfc.chkF fs o o ts us = z := ⟨_, rfl⟩
   obtain ⟨z2, hz2⟩ : ∃ z, Lfc.chkF fs o o us all = z := ⟨_, rfl⟩
   obtain ⟨z3, hz3⟩ : ∃ z, Lfc.chkF fs o o ts all = z := ⟨_, rfl⟩
   rw [hz1] at C1 Z1
   rw [hz2] at C2 Z2
   rw [hz3] at C3 Z3
   have aw : ∀ W W', Below wr.heap.size wr W → Below W.heap.size W W' → Below wr.heap.size wr W' := fun W W' h h' => h.trans (h'.mono h.size)
   clear hz1 hz2 hz3 hh hh2 hI q hla Q3 HQH KB RT QK HI
   go_wp2_with fail
   clear y0 y1 y2 y3 y4 y5 y6 y7 y8 y9 y10
   refine CL.out.mono ?_
   rintro e w4 ⟨⟨b, rfl⟩, b4⟩
   clear CL
   cases b with
   | false =>
    go_wp2_with fail
    refine (oAwake_any _).mono ?_
    rintro e w7 ⟨rfl, b7⟩
    go_wp2_with fail
    go_ret
    exact ⟨rfl, UP.out _ (aw _ _ b4 b7)⟩
   | true =>
    have I0 := Lib.hid b4
    clear b4
    go_wp2_with fail
    go_loopw [7] (fun i wx => ∃ j : Nat, 1 ≤ j ∧ j ≤ 4 ∧ i = .int .i64 (j : Int) ∧ Hid (Below wr.heap.size wr wx)) (fun i _ => 4 - (intOf i).toNat)
    case atStart => exact ⟨1, by omega, by omega, rfl, I0⟩
    case round =>
     clear I0
     rename World => wx
     obtain ⟨j, hj1, hj4, rfl, HI⟩ := hrel
     by_cases hj : j ≤ 3
     ·have hd1 : decide ((j : Int) ≤ 3) = true := by rw [decide_eq_true_eq]; omega
      obtain ⟨y0, y1, y2, y3, y4, y5, y6, y7, y8, y9, y10⟩ := cells11q (QC.out _ HI.out)
      go_wp2_with fail
      refine (C1.out _ (j : Int) HI.out (by omega)).mono ?_
      rintro e wA ⟨⟨b1, rfl, hb1⟩, nb1⟩
      have BA := aw _ _ HI.out nb1
      have HB1 := Lib.hid hb1
      clear y0 y1 y2 y3 y4 y5 y6 y7 y8 y9 y10 hb1 nb1
      obtain ⟨y0, y1, y2, y3, y4, y5, y6, y7, y8, y9, y10⟩ := cells11q (QC.out _ BA)
      go_wp2_with fail
      refine (C2.out _ 2 BA (by omega)).mono ?_
      rintro e wB ⟨⟨b2, rfl, hb2⟩, nb2⟩
      have BB := aw _ _ BA nb2
      have HB2 := Lib.hid hb2
      clear y0 y1 y2 y3 y4 y5 y6 y7 y8 y9 y10 hb2 nb2
      have hR : Hid (Below wr.heap.size wr wB) := Lib.hid BB
      cases b1 with
      | false =>
       go_wp2_with fail
       go_roundw
       case rel => exact ⟨j + 1, by omega, by omega, by go_num, hR⟩
       case measure => simp [intOf]; omega
      | true =>
       cases b2 with
       | false =>
        go_wp2_with fail
        go_roundw
        case rel => exact ⟨j + 1, by omega, by omega, by go_num, hR⟩
        case measure => simp [intOf]; omega
       | true =>
        have hh1 : Lfc.hldF ks fs o o ts us (j : Int) := by have := HB1.out; simpa using this
        have hh2 : Lfc.hldF ks fs o o us all 2 := by have := HB2.out; simpa using this
        obtain rfl := Z1.out _ hh1
        obtain rfl := Z2.out _ hh2
        have hh3 := TR.out _ hh1 hh2
        obtain rfl := Z3.out _ hh3
        have W3 := Lib.hid hh3
        clear hh1 hh2 hh3 HB1 HB2
        obtain ⟨y0, y1, y2, y3, y4, y5, y6, y7, y8, y9, y10⟩ := cells11q (QC.out _ BB)
        by_cases hj1' : j = 1
        ·subst hj1'
         go_wp2_with fail
         refine (C3.out _ 1 BB (by omega)).mono ?_
         rintro e wC ⟨⟨b3, rfl, hb3⟩, nb3⟩
         have BC := aw _ _ BB nb3
         have hR3 : Hid (Below wr.heap.size wr wC) := Lib.hid BC
         obtain rfl : b3 = true := hb3.2 (by have := W3.out; simpa using this)
         clear y0 y1 y2 y3 y4 y5 y6 y7 y8 y9 y10 hb3 nb3
         go_wp2_with fail
         go_roundw
         case rel => exact ⟨1 + 1, by omega, by omega, by go_num, hR3⟩
         case measure => simp [intOf]
        ·have hj1f : ((j : Int) == 1) = false := by simp; omega
         have hj1g : decide ((j : Int) = 1) = false := by simp; omega
         go_wp2_with fail
         refine (C3.out _ 2 BB (by omega)).mono ?_
         rintro e wC ⟨⟨b3, rfl, hb3⟩, nb3⟩
         have BC := aw _ _ BB nb3
         have hR3 : Hid (Below wr.heap.size wr wC) := Lib.hid BC
         obtain rfl : b3 = true := hb3.2 (by have := W3.out; rwa [if_neg (by omega)] at this)
         clear y0 y1 y2 y3 y4 y5 y6 y7 y8 y9 y10 hb3 nb3
         go_wp2_with fail
         go_roundw
         case rel => exact ⟨j + 1, by omega, by omega, by go_num, hR3⟩
         case measure => simp [intOf]; omega
     ·obtain rfl : j = 4 := by omega
      go_wp2_with fail
      refine (oAwake_any _).mono ?_
      rintro e w7 ⟨rfl, b7⟩
      go_wp2_with fail
      go_ret
      exact ⟨rfl, UP.out _ (aw _ _ HI.out b7)⟩
end Go.Proofs.YtadjpadieljjlaaGreat
