/- Parts of the proof: OpRefP, OpRefA. -/
import Derived.Test.YtkhfnkokdmoipaaDoorOpM4
import Derived.Test.YtkhfnkokdmoipaaDoorOpLow2
import Derived.BigQuiet
import Derived.Deep.QuietTactic
/- The reference's resolution is the program's. No program in sight. -/
set_option linter.unusedVariables false
set_option linter.unusedSimpArgs false
namespace Lfc
def splitT (g : List Opd → Except Int Raw) (s : List Opd) (i : Nat) : Except Int Raw :=
  match g (s.take i) with
  | .error e => .error e
  | .ok a => match g (s.drop (i + 1)) with
    | .error e => .error e
    | .ok b => .ok (joinT (s.getD i opdZ).tree a b)
def refBody (l : List Op) (g : List Opd → Except Int Raw) (s : List Opd) : Except Int Raw :=
  if (low l s).at_.length = 0 then .ok (appAll s)
  else if (low l s).same = false ∨ ((low l s).first.fix = 3 ∧ 1 < (low l s).at_.length) then .error 22
  else if (low l s).first.fix = 1 then unT g (s.getD 0 opdZ).tree (s.drop 1) (decide ((low l s).at_.getD 0 0 = 0))
  else if (low l s).first.fix = 2 then unT g (s.getD (lastOf (low l s).at_) opdZ).tree (s.take (lastOf (low l s).at_)) (decide (lastOf (low l s).at_ = s.length - 1))
  else splitT g s (if (low l s).first.fix = 4 then lastOf (low l s).at_ else (low l s).at_.getD 0 0)
def refP (l : List Op) : Nat → List Opd → Except Int Raw
  | 0, _ => .error 21
  | m + 1, s => if s.length = 0 then .error 21 else refBody l (refP l m) s

/-- The operators of one level, by their places. -/
def pick (l : List Op) (P : Int) : Nat → List Opd → List Nat
  | _, [] => []
  | k, x :: r => match opOf l x with
    | some o => if o.prec = P then k :: pick l P (k + 1) r else pick l P (k + 1) r
    | none => pick l P (k + 1) r
def fixOk (l : List Op) (P F : Int) (q : List Opd) : Prop := ∀ x ∈ q, ∀ o, opOf l x = some o → o.prec = P → o.fix = F
def GeP (l : List Op) (P : Int) (q : List Opd) : Prop := ∀ x ∈ q, ∀ o, opOf l x = some o → P ≤ o.prec
theorem low_oneR (l : List Op) : ∀ (q : List Opd) (st : LowS) (k : Nat), st.at_.length ≠ 0 → GeP l st.first.prec q → ∃ b, lowN l st k q = ⟨st.at_ ++ pick l st.first.prec k q, st.first, b⟩ ∧ (b = true ↔ st.same = true ∧ fixOk l st.first.prec st.first.fix q)
  | [], st, k, h, hq => ⟨st.same, by simp [lowN, pick], by simp [fixOk]⟩
  | x :: r, st, k, h, hq => by
    have hr : GeP l st.first.prec r := fun y hy => hq y (List.mem_cons_of_mem _ hy)
    rw [lowN, pick]
    cases e : opOf l x with
    | none =>
      obtain ⟨b, h1, h2⟩ := low_oneR l r st (k + 1) h hr
      refine ⟨b, h1, h2.trans (and_congr_right fun _ => ?_)⟩
      exact ⟨fun hf y hy => (by rcases List.mem_cons.1 hy with rfl | hy; exact fun o ho => (by rw [e] at ho; cases ho); exact hf y hy), fun hf y hy => hf y (List.mem_cons_of_mem _ hy)⟩
    | some o =>
      have hle := hq x List.mem_cons_self o e
      by_cases hp : o.prec = st.first.prec
      · have es : lowStep st k (some o) = ⟨st.at_ ++ [k], st.first, st.same && decide (o.fix = st.first.fix)⟩ := by
          unfold lowStep
          simp only
          rw [if_neg (by omega), if_pos hp]
        obtain ⟨b, h1, h2⟩ := low_oneR l r ⟨st.at_ ++ [k], st.first, st.same && decide (o.fix = st.first.fix)⟩ (k + 1) (by simp) hr
        rw [es]
        simp only [hp, if_true]
        refine ⟨b, by rw [h1]; simp, h2.trans ?_⟩
        simp only [Bool.and_eq_true, decide_eq_true_eq]
        constructor
        · rintro ⟨⟨a1, a2⟩, a3⟩
          refine ⟨a1, fun y hy => ?_⟩
          rcases List.mem_cons.1 hy with rfl | hy
          · intro o' ho' _
            rw [e] at ho'
            cases ho'
            exact a2
          · exact a3 y hy
        · rintro ⟨a1, a2⟩
          exact ⟨⟨a1, a2 x List.mem_cons_self o e hp⟩, fun y hy => a2 y (List.mem_cons_of_mem _ hy)⟩
      · have es : lowStep st k (some o) = st := by
          unfold lowStep
          simp only
          rw [if_neg (by omega), if_neg hp]
        obtain ⟨b, h1, h2⟩ := low_oneR l r st (k + 1) h hr
        rw [es]
        simp only [hp, if_false]
        refine ⟨b, h1, h2.trans (and_congr_right fun _ => ?_)⟩
        exact ⟨fun hf y hy => (by rcases List.mem_cons.1 hy with rfl | hy; exact fun o' ho' h' => (by rw [e] at ho'; cases ho'; exact absurd h' hp); exact hf y hy), fun hf y hy => hf y (List.mem_cons_of_mem _ hy)⟩
def Hi (P : Int) (st : LowS) : Prop := st.at_.length = 0 ∨ P < st.first.prec
theorem low_two (l : List Op) (P : Int) : ∀ (q : List Opd) (st : LowS) (k : Nat), Hi P st → GeP l P q → (pick l P k q = [] → Hi P (lowN l st k q)) ∧ (∀ j r', pick l P k q = j :: r' → ∃ f b, f.prec = P ∧ (∃ x ∈ q, opOf l x = some f) ∧ lowN l st k q = ⟨j :: r', f, b⟩ ∧ (b = true ↔ fixOk l P f.fix q))
  | [], st, k, h, hq => ⟨fun _ => h, fun j r' e => by cases e⟩
  | x :: r, st, k, h, hq => by
    have hr : GeP l P r := fun y hy => hq y (List.mem_cons_of_mem _ hy)
    rw [lowN, pick]
    cases e : opOf l x with
    | none =>
      obtain ⟨h1, h2⟩ := low_two l P r st (k + 1) h hr
      refine ⟨h1, fun j r' he => ?_⟩
      obtain ⟨f, b, a1, ⟨y, hy, a2⟩, a3, a4⟩ := h2 j r' he
      refine ⟨f, b, a1, ⟨y, List.mem_cons_of_mem _ hy, a2⟩, a3, a4.trans ?_⟩
      exact ⟨fun hf y hy => (by rcases List.mem_cons.1 hy with rfl | hy; exact fun o ho => (by rw [e] at ho; cases ho); exact hf y hy), fun hf y hy => hf y (List.mem_cons_of_mem _ hy)⟩
    | some o =>
      have hle := hq x List.mem_cons_self o e
      by_cases hp : o.prec = P
      · have es : lowStep st k (some o) = ⟨[k], o, true⟩ := by
          unfold lowStep
          simp only
          rcases h with h | h
          · rw [if_pos (.inl h)]
          · rw [if_pos (.inr (by omega))]
        rw [es]
        simp only [hp, if_true]
        refine ⟨(fun he => by cases he), fun j r' he => ?_⟩
        injection he with e1 e2
        subst e1
        have hr' : GeP l o.prec r := by rw [hp]; exact hr
        obtain ⟨b, h1, h2⟩ := low_oneR l r ⟨[k], o, true⟩ (k + 1) (by simp) hr'
        refine ⟨o, b, hp, ⟨x, List.mem_cons_self, e⟩, ?_, h2.trans ?_⟩
        · rw [h1, ← e2]
          simp only [hp]
          rfl
        · simp only [hp, true_and]
          exact ⟨fun hf y hy => (by rcases List.mem_cons.1 hy with rfl | hy; exact fun o' ho' h' => (by rw [e] at ho'; cases ho'; rfl); exact hf y hy), fun hf y hy => hf y (List.mem_cons_of_mem _ hy)⟩
      · have hh : Hi P (lowStep st k (some o)) := by
          unfold lowStep
          simp only
          split
          · exact .inr (show P < o.prec by omega)
          · rename_i hn
            have h3 : P < st.first.prec := by
              rcases h with h | h
              · exact absurd (.inl h) hn
              · exact h
            split
            · exact .inr h3
            · exact .inr h3
        simp only [hp, if_false]
        obtain ⟨h1, h2⟩ := low_two l P r _ (k + 1) hh hr
        refine ⟨h1, fun j r' he => ?_⟩
        obtain ⟨f, b, a1, ⟨y, hy, a2⟩, a3, a4⟩ := h2 j r' he
        refine ⟨f, b, a1, ⟨y, List.mem_cons_of_mem _ hy, a2⟩, a3, a4.trans ?_⟩
        exact ⟨fun hf y hy => (by rcases List.mem_cons.1 hy with rfl | hy; exact fun o' ho' h' => (by rw [e] at ho'; cases ho'; exact absurd h' hp); exact hf y hy), fun hf y hy => hf y (List.mem_cons_of_mem _ hy)⟩
theorem low_min (l : List Op) : ∀ (q : List Opd) (st : LowS) (k : Nat), (∀ x ∈ q, ∀ o, opOf l x = some o → (lowN l st k q).at_.length ≠ 0 ∧ (lowN l st k q).first.prec ≤ o.prec) ∧ (st.at_.length ≠ 0 → (lowN l st k q).at_.length ≠ 0 ∧ (lowN l st k q).first.prec ≤ st.first.prec)
  | [], st, k => ⟨fun x h => (by cases h), fun h => ⟨h, Int.le_refl _⟩⟩
  | x :: r, st, k => by
    rw [lowN]
    obtain ⟨h1, h2⟩ := low_min l r (lowStep st k (opOf l x)) (k + 1)
    generalize lowN l (lowStep st k (opOf l x)) (k + 1) r = F at *
    have hs : (∀ o, opOf l x = some o → (lowStep st k (opOf l x)).at_.length ≠ 0 ∧ (lowStep st k (opOf l x)).first.prec ≤ o.prec) ∧ (st.at_.length ≠ 0 → (lowStep st k (opOf l x)).at_.length ≠ 0 ∧ (lowStep st k (opOf l x)).first.prec ≤ st.first.prec) := by
      cases e : opOf l x with
      | none => exact ⟨fun o h => (by cases h), fun h => ⟨h, Int.le_refl _⟩⟩
      | some o =>
        unfold lowStep
        simp only
        split
        · rename_i hc
          refine ⟨fun o' h' => ?_, fun h => ?_⟩
          · cases h'; exact ⟨by simp, Int.le_refl _⟩
          · exact ⟨by simp, by rcases hc with hc | hc; exact absurd hc h; show o.prec ≤ _; omega⟩
        · rename_i hc
          split
          · refine ⟨fun o' h' => ?_, fun h => ⟨by simp, Int.le_refl _⟩⟩
            cases h'
            exact ⟨by simp, by show st.first.prec ≤ _; omega⟩
          · refine ⟨fun o' h' => ?_, fun h => ⟨h, Int.le_refl _⟩⟩
            cases h'
            exact ⟨fun h => hc (.inl h), by show st.first.prec ≤ _; omega⟩
    refine ⟨fun y hy o ho => ?_, fun h => ?_⟩
    · rcases List.mem_cons.1 hy with rfl | hy
      · have a := hs.1 o ho
        have b := h2 a.1
        exact ⟨b.1, by omega⟩
      · exact h1 y hy o ho
    · have a := hs.2 h
      have b := h2 a.1
      exact ⟨b.1, by omega⟩
theorem pick_add (l : List Op) (P : Int) (d : Nat) : ∀ (q : List Opd) (k : Nat), pick l P (k + d) q = (pick l P k q).map (· + d)
  | [], k => rfl
  | x :: r, k => by
    have ih := pick_add l P d r (k + 1)
    rw [show k + 1 + d = k + d + 1 by omega] at ih
    rw [pick, pick, ih]
    split
    · split <;> simp
    · rfl
theorem pick_app (l : List Op) (P : Int) : ∀ (a b : List Opd) (k : Nat), pick l P k (a ++ b) = pick l P k a ++ pick l P (k + a.length) b
  | [], b, k => by simp [pick]
  | x :: r, b, k => by
    have ih := pick_app l P r b (k + 1)
    rw [show k + 1 + r.length = k + (x :: r).length by simp; omega] at ih
    rw [List.cons_append, pick, pick, ih]
    split
    · split <;> simp
    · rfl
theorem pick_lt (l : List Op) (P : Int) : ∀ (q : List Opd) (k : Nat), ∀ i ∈ pick l P k q, k ≤ i ∧ i < k + q.length
  | [], k, i, h => by cases h
  | x :: r, k, i, h => by
    have ih := pick_lt l P r (k + 1) i
    rw [pick] at h
    have : i = k ∨ i ∈ pick l P (k + 1) r := by
      revert h
      split
      · split
        · intro h; rcases List.mem_cons.1 h with h | h
          · exact .inl h
          · exact .inr h
        · exact .inr
      · exact .inr
    rcases this with rfl | h
    · simp
    · have := ih h
      simp only [List.length_cons]; omega
theorem filter_all' {p : Nat → Bool} {a : List Nat} (h : ∀ x ∈ a, p x = true) : a.filter p = a := List.filter_eq_self.2 h
theorem filter_none' {p : Nat → Bool} {a : List Nat} (h : ∀ x ∈ a, p x = false) : a.filter p = [] := List.filter_eq_nil_iff.2 fun x hx => by simp [h x hx]
theorem pick_take (l : List Op) (P : Int) (s : List Opd) (i : Nat) (hi : i ≤ s.length) : pick l P 0 (s.take i) = (pick l P 0 s).filter (fun x => decide (x < i)) := by
  have e := pick_app l P (s.take i) (s.drop i) 0
  rw [List.take_append_drop] at e
  rw [e, List.filter_append, filter_all' (fun x hx => by have := pick_lt l P _ _ x hx; rw [List.length_take] at this; simp; omega), filter_none' (fun x hx => by have := pick_lt l P _ _ x hx; rw [List.length_take] at this; simp; omega), List.append_nil]
theorem pick_drop (l : List Op) (P : Int) (s : List Opd) (i : Nat) (hi : i ≤ s.length) : (pick l P 0 (s.drop i)).map (· + i) = (pick l P 0 s).filter (fun x => decide (i ≤ x)) := by
  have e := pick_app l P (s.take i) (s.drop i) 0
  rw [List.take_append_drop, List.length_take, Nat.min_eq_left hi] at e
  rw [e, List.filter_append, filter_none' (fun x hx => by have := pick_lt l P _ _ x hx; rw [List.length_take] at this; simp; omega), filter_all' (fun x hx => by have := pick_lt l P _ _ x hx; simp; omega), List.nil_append, ← pick_add]
/-- What the lowest places are. -/
theorem low_spec (l : List Op) (s : List Opd) (h : (low l s).at_.length ≠ 0) : GeP l (low l s).first.prec s ∧ pick l (low l s).first.prec 0 s = (low l s).at_ ∧ (∃ x ∈ s, opOf l x = some (low l s).first) ∧ ((low l s).same = true ↔ fixOk l (low l s).first.prec (low l s).first.fix s) := by
  have hg : GeP l (low l s).first.prec s := fun x hx o ho => ((low_min l s lowZ 0).1 x hx o ho).2
  obtain ⟨h1, h2⟩ := low_two l (low l s).first.prec s lowZ 0 (.inl rfl) hg
  cases hp : pick l (low l s).first.prec 0 s with
  | nil =>
    have := h1 hp
    rcases this with h' | h'
    · exact absurd h' h
    · exact absurd h' (Int.lt_irrefl _)
  | cons j r' =>
    obtain ⟨f, b, a1, a2, a3, a4⟩ := h2 j r' hp
    have e : low l s = ⟨j :: r', f, b⟩ := a3
    refine ⟨hg, ?_, ?_, ?_⟩
    · rw [e]
    · rw [e]; exact a2
    · rw [e]; rw [← a1] at a4; exact a4
/-- The part of a sequence whose lowest level is that of the whole. -/
theorem low_part (l : List Op) {s t : List Opd} {P F : Int} (hg : GeP l P s) (hf : fixOk l P F s) (ht : ∀ x ∈ t, x ∈ s) (hne : pick l P 0 t ≠ []) : (low l t).at_ = pick l P 0 t ∧ (low l t).first.fix = F ∧ (low l t).same = true := by
  obtain ⟨_, h2⟩ := low_two l P t lowZ 0 (.inl rfl) (fun x hx => hg x (ht x hx))
  cases hp : pick l P 0 t with
  | nil => exact absurd hp hne
  | cons j r' =>
    obtain ⟨f, b, a1, ⟨x, hx, a2⟩, a3, a4⟩ := h2 j r' hp
    have e : low l t = ⟨j :: r', f, b⟩ := a3
    have hfix : f.fix = F := hf x (ht x hx) f a2 a1
    refine ⟨by rw [e], by rw [e]; exact hfix, ?_⟩
    rw [e]
    refine a4.2 (fun y hy o ho hp => ?_)
    rw [hfix]
    exact hf y (ht y hy) o ho hp

theorem segs_lt (s : List Opd) : ∀ (at_ : List Nat) (b : Nat), at_.Pairwise (· < ·) → (∀ i ∈ at_, b ≤ i ∧ i < s.length) → (0 < b ∨ at_ ≠ []) → b ≤ s.length → ∀ q ∈ segs s b (at_ ++ [s.length]), q.length < s.length
  | [], b, _, _, hb, hbl, q, hq => by
    simp only [List.nil_append, segs, List.take_length, List.mem_cons, List.not_mem_nil, or_false] at hq
    subst hq
    rw [List.length_drop]
    rcases hb with hb | hb
    · omega
    · exact absurd rfl hb
  | e :: r, b, hp, hi, _, hbl, q, hq => by
    rw [List.pairwise_cons] at hp
    obtain ⟨h1, h2⟩ := hi e List.mem_cons_self
    rw [List.cons_append, segs, List.mem_cons] at hq
    rcases hq with rfl | hq
    · rw [List.length_drop, List.length_take]; omega
    · exact segs_lt s r (e + 1) hp.2 (fun i hr => ⟨hp.1 i hr, (hi i (List.mem_cons_of_mem _ hr)).2⟩) (.inl (by omega)) (by omega) q hq
theorem allOk_congr {g g' : List Opd → Except Int Raw} : ∀ Q : List (List Opd), (∀ q ∈ Q, g q = g' q) → allOk g Q = allOk g' Q
  | [], _ => rfl
  | q :: r, h => by rw [allOk, allOk, h q List.mem_cons_self, allOk_congr r (fun x hx => h x (List.mem_cons_of_mem _ hx))]
theorem lastOf_mem {at_ : List Nat} (h : at_.length ≠ 0) : lastOf at_ ∈ at_ := by
  unfold lastOf
  rw [List.getD_eq_getElem?_getD, List.getElem?_eq_getElem (by omega)]
  exact List.getElem_mem _
theorem headOf_mem {at_ : List Nat} (h : at_.length ≠ 0) : at_.getD 0 0 ∈ at_ := by
  rw [List.getD_eq_getElem?_getD, List.getElem?_eq_getElem (by omega)]
  exact List.getElem_mem _
theorem resBody_congr (l : List Op) {g g' : List Opd → Except Int Raw} (s : List Opd) (hs : s.length ≠ 0) (h : ∀ q : List Opd, q.length < s.length → g q = g' q) : resBody l g s = resBody l g' s := by
  unfold resBody
  have hpl := low_at l s
  have e1 : g (s.drop 1) = g' (s.drop 1) := h _ (by rw [List.length_drop]; omega)
  have e2 : g (s.take (s.length - 1)) = g' (s.take (s.length - 1)) := h _ (by rw [List.length_take]; omega)
  split
  · rfl
  · rename_i h0
    have e3 : binT g s (low l s).at_ (low l s).first.fix = binT g' s (low l s).at_ (low l s).first.fix := by
      unfold binT
      rw [allOk_congr _ (fun q hq => h q (segs_lt s _ 0 hpl.1 (fun i hi => ⟨Nat.zero_le _, hpl.2 i hi⟩) (.inr (fun e => h0 (by rw [e]; rfl))) (Nat.zero_le _) q hq))]
    unfold unT
    rw [e1, e2, e3]
theorem refBody_congr (l : List Op) {g g' : List Opd → Except Int Raw} (s : List Opd) (hs : s.length ≠ 0) (h : ∀ q : List Opd, q.length < s.length → g q = g' q) : refBody l g s = refBody l g' s := by
  unfold refBody
  have hpl := low_at l s
  have e1 : g (s.drop 1) = g' (s.drop 1) := h _ (by rw [List.length_drop]; omega)
  split
  · rfl
  · rename_i h0
    have hl := hpl.2 _ (lastOf_mem h0)
    have hh := hpl.2 _ (headOf_mem h0)
    have e2 : g (s.take (lastOf (low l s).at_)) = g' (s.take (lastOf (low l s).at_)) := h _ (by rw [List.length_take]; omega)
    have e3 : ∀ i, i < s.length → splitT g s i = splitT g' s i := fun i hi => by
      unfold splitT
      rw [h (s.take i) (by rw [List.length_take]; omega), h (s.drop (i + 1)) (by rw [List.length_drop]; omega)]
    have e4 : splitT g s (if (low l s).first.fix = 4 then lastOf (low l s).at_ else (low l s).at_.getD 0 0) = splitT g' s (if (low l s).first.fix = 4 then lastOf (low l s).at_ else (low l s).at_.getD 0 0) := e3 _ (by split <;> assumption)
    unfold unT
    rw [e1, e2, e4]
theorem resP_fuel (l : List Op) : ∀ (n m : Nat) (s : List Opd), s.length ≤ n → s.length ≤ m → resP l n s = resP l m s
  | 0, 0, s, _, _ => rfl
  | 0, m + 1, s, h, _ => by rw [resP, resP, if_pos (by omega)]
  | n + 1, 0, s, _, h => by rw [resP, resP, if_pos (by omega)]
  | n + 1, m + 1, s, h, h' => by
    rw [resP, resP]
    split
    · rfl
    · rename_i h0
      exact resBody_congr l s h0 (fun q hq => resP_fuel l n m q (by omega) (by omega))
theorem allOk_app {g : List Opd → Except Int Raw} (q : List Opd) : ∀ Q : List (List Opd), allOk g (Q ++ [q]) = match allOk g Q with
    | .error e => .error e
    | .ok ps => match g q with
      | .error e => .error e
      | .ok t => .ok (ps ++ [t])
  | [] => by
    rw [List.nil_append]
    simp only [allOk]
    cases g q with
    | error e => rfl
    | ok t => rfl
  | x :: r => by
    rw [List.cons_append, allOk, allOk, allOk_app q r]
    cases g x with
    | error e => rfl
    | ok t =>
      cases allOk g r with
      | error e => rfl
      | ok ts => cases g q <;> rfl
theorem allOk_len {g : List Opd → Except Int Raw} : ∀ (Q : List (List Opd)) (ts : List Raw), allOk g Q = .ok ts → ts.length = Q.length
  | [], ts, h => by rw [allOk] at h; cases h; rfl
  | q :: r, ts, h => by
    rw [allOk] at h
    cases e : g q with
    | error e' => rw [e] at h; cases h
    | ok t =>
      rw [e] at h
      simp only at h
      cases e2 : allOk g r with
      | error e' => rw [e2] at h; cases h
      | ok ts' =>
        rw [e2] at h
        cases h
        rw [List.length_cons, List.length_cons, allOk_len r ts' e2]
theorem segs_shift (s : List Opd) (k : Nat) : ∀ (E : List Nat) (b : Nat), segs s (b + k) (E.map (· + k)) = segs (s.drop k) b E
  | [], b => rfl
  | e :: r, b => by
    have ih := segs_shift s k r (e + 1)
    rw [show e + 1 + k = e + k + 1 by omega] at ih
    rw [List.map_cons, segs, segs, ih, List.take_drop, List.drop_drop]
    rw [show k + b = b + k by omega, show k + e = e + k by omega]
theorem segs_take (s : List Opd) (i : Nat) : ∀ (E : List Nat) (b : Nat), (∀ e ∈ E, e ≤ i) → segs (s.take i) b E = segs s b E
  | [], b, _ => rfl
  | e :: r, b, h => by
    rw [segs, segs, segs_take s i r (e + 1) (fun x hx => h x (List.mem_cons_of_mem _ hx)), List.take_take, Nat.min_eq_left (h e List.mem_cons_self)]
theorem segs_last (s : List Opd) (i n : Nat) : ∀ (E : List Nat) (b : Nat), segs s b (E ++ [i] ++ [n]) = segs s b (E ++ [i]) ++ [(s.take n).drop (i + 1)]
  | [], b => rfl
  | e :: r, b => by
    have := segs_last s i n r (e + 1)
    simp only [List.cons_append, segs] at this ⊢
    rw [this]
theorem opTrees_drop (s : List Opd) (k : Nat) (E : List Nat) : opTrees (s.drop k) E = opTrees s (E.map (· + k)) := by
  unfold opTrees
  rw [List.map_map]
  apply List.map_congr_left
  intro i _
  simp only [Function.comp, List.getD_eq_getElem?_getD, List.getElem?_drop]
  rw [show k + i = i + k by omega]
theorem opTrees_take (s : List Opd) (i : Nat) (E : List Nat) (h : ∀ e ∈ E, e < i) : opTrees (s.take i) E = opTrees s E := by
  unfold opTrees
  apply List.map_congr_left
  intro e he
  simp only [List.getD_eq_getElem?_getD]
  rw [List.getElem?_take_of_lt (h e he)]
theorem joinL_snoc (ops ps : List Raw) (o t z : Raw) (h : ps.length = ops.length + 1) : joinL ((ps ++ [t]).getD 0 z) ((ops ++ [o]).zip ((ps ++ [t]).drop 1)) = joinT o (joinL (ps.getD 0 z) (ops.zip (ps.drop 1))) t := by
  cases ps with
  | nil => simp at h
  | cons p ps =>
    have hl : ops.length = ps.length := by simpa using h.symm
    simp only [List.cons_append, List.getD_cons_zero, List.drop_succ_cons, List.drop_zero]
    rw [List.zip_append hl]
    unfold joinL
    rw [List.foldl_append]
    rfl
/-- One binary operator. -/
theorem split_one (g : List Opd → Except Int Raw) (s : List Opd) (i : Nat) (fix : Int) : splitT g s i = binT g s [i] fix := by
  unfold splitT binT
  have e : segs s 0 ([i] ++ [s.length]) = [s.take i, s.drop (i + 1)] := by simp [segs]
  rw [e, allOk]
  cases g (s.take i) with
  | error e => rfl
  | ok a =>
    simp only [allOk]
    cases g (s.drop (i + 1)) with
    | error e => rfl
    | ok b =>
      simp only [joined, opTrees, List.map_cons, List.map_nil]
      split
      · simp [joinR]
      · simp [joinL]
theorem split_right (l : List Op) (m : Nat) (s : List Opd) (i : Nat) (r : List Nat) (hm : s.length ≤ m + 1) (hat : (low l s).at_ = i :: r) (hsm : (low l s).same = true) (hf : (low l s).first.fix = 5) : splitT (resP l m) s i = binT (resP l m) s (i :: r) 5 := by
  cases r with
  | nil => exact split_one _ _ _ _
  | cons j r' =>
    obtain ⟨hg, hp, _, hfx⟩ := low_spec l s (by rw [hat]; simp)
    have hpl := low_at l s
    rw [hat] at hpl hp
    have hfx := hfx.1 hsm
    rw [hf] at hfx
    generalize (low l s).first.prec = P at *
    have hil := hpl.2 i List.mem_cons_self
    have hjl := hpl.2 j (by simp)
    have hij := (List.pairwise_cons.1 hpl.1).1
    have hd := pick_drop l P s (i + 1) (by omega)
    have hfl : (i :: j :: r').filter (fun x => decide (i + 1 ≤ x)) = j :: r' := by
      rw [List.filter_cons_of_neg (by simp), filter_all' (fun x hx => by have := hij x hx; simp; omega)]
    rw [hp, hfl] at hd
    have hne : pick l P 0 (s.drop (i + 1)) ≠ [] := fun e => by rw [e] at hd; cases hd
    obtain ⟨a1, a2, a3⟩ := low_part l hg hfx (t := s.drop (i + 1)) (fun x hx => List.mem_of_mem_drop hx) hne
    have htl : (s.drop (i + 1)).length = s.length - (i + 1) := List.length_drop
    obtain ⟨m', rfl⟩ : ∃ m', m = m' + 1 := ⟨m - 1, by have := hij j List.mem_cons_self; omega⟩
    have hseg : segs (s.drop (i + 1)) 0 ((low l (s.drop (i + 1))).at_ ++ [(s.drop (i + 1)).length]) = segs s (i + 1) (j :: r' ++ [s.length]) := by
      have := segs_shift s (i + 1) ((low l (s.drop (i + 1))).at_ ++ [(s.drop (i + 1)).length]) 0
      rw [← this, List.map_append, a1, hd]
      simp only [List.map_cons, List.map_nil, htl, Nat.zero_add]
      rw [show s.length - (i + 1) + (i + 1) = s.length by omega]
    have hops : opTrees (s.drop (i + 1)) (low l (s.drop (i + 1))).at_ = opTrees s (j :: r') := by
      rw [opTrees_drop, a1, hd]
    have hpt := low_at l (s.drop (i + 1))
    have hres : resP l (m' + 1) (s.drop (i + 1)) = match allOk (resP l (m' + 1)) (segs s (i + 1) (j :: r' ++ [s.length])) with
        | .error e => .error e
        | .ok ps => .ok (joinR rawZ (opTrees s (j :: r')) ps) := by
      have hz : (s.drop (i + 1)).length ≠ 0 := by have := hij j List.mem_cons_self; omega
      have hnz : ¬ (low l (s.drop (i + 1))).at_.length = 0 := by rw [a1]; intro e; exact hne (List.eq_nil_of_length_eq_zero e)
      have ef : resP l (m' + 1) (s.drop (i + 1)) = resBody l (resP l m') (s.drop (i + 1)) := by rw [resP, if_neg hz]
      have hall : allOk (resP l m') (segs s (i + 1) (j :: r' ++ [s.length])) = allOk (resP l (m' + 1)) (segs s (i + 1) (j :: r' ++ [s.length])) := by
        refine allOk_congr _ (fun q hq => ?_)
        rw [← hseg] at hq
        have := segs_lt _ _ 0 hpt.1 (fun x hx => ⟨Nat.zero_le _, hpt.2 x hx⟩) (.inr (fun e => hnz (by rw [e]; rfl))) (Nat.zero_le _) q hq
        exact resP_fuel l _ _ q (by omega) (by omega)
      rw [ef]
      unfold resBody
      rw [if_neg hnz, a3, a2, if_neg (by simp), if_neg (by omega), if_neg (by omega), if_neg (by omega)]
      unfold binT
      rw [hseg, hops, hall]
      rfl
    unfold splitT binT
    rw [List.cons_append, segs, allOk, List.drop_zero, hres]
    cases resP l (m' + 1) (s.take i) with
    | error e => rfl
    | ok a =>
      simp only
      cases allOk (resP l (m' + 1)) (segs s (i + 1) (j :: r' ++ [s.length])) with
      | error e => rfl
      | ok ps =>
        simp only [joined, if_true]
        rw [show opTrees s (i :: j :: r') = (s.getD i opdZ).tree :: opTrees s (j :: r') from rfl, joinR]
theorem split_left (l : List Op) (m : Nat) (s : List Opd) (i : Nat) (r : List Nat) (hm : s.length ≤ m + 1) (hat : (low l s).at_ = r ++ [i]) (hsm : (low l s).same = true) (hf : (low l s).first.fix = 4) : splitT (resP l m) s i = binT (resP l m) s (r ++ [i]) 4 := by
  by_cases hr : r = []
  · subst hr; exact split_one _ _ _ _
  · obtain ⟨hg, hp, _, hfx⟩ := low_spec l s (by rw [hat]; simp)
    have hpl := low_at l s
    rw [hat] at hpl hp
    have hfx := hfx.1 hsm
    rw [hf] at hfx
    generalize (low l s).first.prec = P at *
    have hil := hpl.2 i (by simp)
    have hri : ∀ x ∈ r, x < i := fun x hx => (List.pairwise_append.1 hpl.1).2.2 x hx i (by simp)
    have hd := pick_take l P s i (by omega)
    have hfl : (r ++ [i]).filter (fun x => decide (x < i)) = r := by
      rw [List.filter_append, filter_all' (fun x hx => by simpa using hri x hx), filter_none' (fun x hx => by simp at hx; subst hx; simp), List.append_nil]
    rw [hp, hfl] at hd
    obtain ⟨a1, a2, a3⟩ := low_part l hg hfx (t := s.take i) (fun x hx => List.mem_of_mem_take hx) (by rw [hd]; exact hr)
    rw [hd] at a1
    have htl : (s.take i).length = i := by rw [List.length_take]; omega
    have hpos : 0 < i := by
      obtain ⟨x, hx⟩ := List.exists_mem_of_ne_nil r hr
      have := hri x hx; omega
    obtain ⟨m', rfl⟩ : ∃ m', m = m' + 1 := ⟨m - 1, by omega⟩
    have hseg : segs (s.take i) 0 ((low l (s.take i)).at_ ++ [(s.take i).length]) = segs s 0 (r ++ [i]) := by
      rw [a1, htl]
      exact segs_take s i _ 0 (fun e he => by rcases List.mem_append.1 he with he | he; have := hri e he; omega; simp at he; omega)
    have hops : opTrees (s.take i) (low l (s.take i)).at_ = opTrees s r := by rw [a1]; exact opTrees_take s i r hri
    have hpt := low_at l (s.take i)
    have hnz : ¬ (low l (s.take i)).at_.length = 0 := by rw [a1]; intro e; exact hr (List.eq_nil_of_length_eq_zero e)
    have hres : resP l (m' + 1) (s.take i) = match allOk (resP l (m' + 1)) (segs s 0 (r ++ [i])) with
        | .error e => .error e
        | .ok ps => .ok (joinL (ps.getD 0 rawZ) ((opTrees s r).zip (ps.drop 1))) := by
      have hz : (s.take i).length ≠ 0 := by omega
      have ef : resP l (m' + 1) (s.take i) = resBody l (resP l m') (s.take i) := by rw [resP, if_neg hz]
      have hall : allOk (resP l m') (segs s 0 (r ++ [i])) = allOk (resP l (m' + 1)) (segs s 0 (r ++ [i])) := by
        refine allOk_congr _ (fun q hq => ?_)
        rw [← hseg] at hq
        have := segs_lt _ _ 0 hpt.1 (fun x hx => ⟨Nat.zero_le _, hpt.2 x hx⟩) (.inr (fun e => hnz (by rw [e]; rfl))) (Nat.zero_le _) q hq
        exact resP_fuel l _ _ q (by omega) (by omega)
      rw [ef]
      unfold resBody
      rw [if_neg hnz, a3, a2, if_neg (by simp), if_neg (by omega), if_neg (by omega), if_neg (by omega)]
      unfold binT
      rw [hseg, hops, hall]
      rfl
    unfold splitT binT
    rw [segs_last, allOk_app, hres, List.take_length]
    cases e : allOk (resP l (m' + 1)) (segs s 0 (r ++ [i])) with
    | error e => rfl
    | ok ps =>
      simp only
      cases resP l (m' + 1) (s.drop (i + 1)) with
      | error e => rfl
      | ok b =>
        have hl := allOk_len _ _ e
        rw [segs_len] at hl
        have hl2 : ps.length = (opTrees s r).length + 1 := by rw [hl]; simp [opTrees]
        simp only [joined]
        rw [if_neg (by decide), show opTrees s (r ++ [i]) = opTrees s r ++ [(s.getD i opdZ).tree] by simp [opTrees], joinL_snoc _ _ _ _ _ hl2]
theorem opOf_fix (l : List Op) (hl : ∀ o ∈ l, o.bad = 0) {x : Opd} {o : Op} (h : opOf l x = some o) : o.fix = 1 ∨ o.fix = 2 ∨ o.fix = 3 ∨ o.fix = 4 ∨ o.fix = 5 := by
  unfold opOf look at h
  split at h
  · cases h
  · split at h
    · cases h; simp
    · split at h
      · cases h; simp
      · have := hl o (List.mem_of_find?_eq_some h)
        unfold Op.bad at this
        split at this
        · omega
        · rename_i hc
          simp only [Bool.or_eq_true, decide_eq_true_eq, not_or] at hc
          omega
theorem body_eq (l : List Op) (hl : ∀ o ∈ l, o.bad = 0) (m : Nat) (s : List Opd) (hs : s.length ≤ m + 1) : refBody l (resP l m) s = resBody l (resP l m) s := by
  unfold refBody resBody
  split
  · rfl
  · rename_i h0
    obtain ⟨_, _, ⟨x, _, hx⟩, _⟩ := low_spec l s h0
    have hfx := opOf_fix l hl hx
    by_cases hsm : (low l s).same = false
    · rw [if_pos (.inl hsm), if_pos hsm]
    · rw [if_neg hsm]
      have hsm' : (low l s).same = true := by simpa using hsm
      by_cases f1 : (low l s).first.fix = 1
      · rw [if_neg (by rintro (h | h); exact hsm h; omega), if_pos f1, if_pos f1]
        by_cases e : (low l s).at_.getD 0 0 = 0
        · rw [e]
        · unfold unT
          rw [if_neg (by simpa using e), if_neg (by simpa using e)]
      · rw [if_neg f1]
        by_cases f2 : (low l s).first.fix = 2
        · rw [if_neg (by rintro (h | h); exact hsm h; omega), if_neg f1, if_pos f2, if_pos f2]
          by_cases e : lastOf (low l s).at_ = s.length - 1
          · rw [e]
          · unfold unT
            rw [if_neg (by simpa using e), if_neg (by simpa using e)]
        · rw [if_neg f2]
          by_cases f3 : (low l s).first.fix = 3 ∧ 1 < (low l s).at_.length
          · rw [if_pos (.inr f3), if_neg f1, if_neg f2, if_pos f3]
          · rw [if_neg (by rintro (h | h); exact hsm h; exact f3 h), if_neg f1, if_neg f2, if_neg f3]
            by_cases f4 : (low l s).first.fix = 4
            · rw [if_pos f4, f4]
              obtain ⟨r, i, hri⟩ : ∃ r i, (low l s).at_ = r ++ [i] := ⟨_, _, (List.dropLast_concat_getLast (fun e => h0 (by rw [e]; rfl))).symm⟩
              have hlast : lastOf (low l s).at_ = i := by rw [hri]; simp [lastOf]
              rw [hlast, split_left l m s i r hs hri hsm' f4, hri]
            · rw [if_neg f4]
              cases hat : (low l s).at_ with
              | nil => rw [hat] at h0; exact absurd rfl h0
              | cons i r =>
                simp only [List.getD_cons_zero]
                by_cases f5 : (low l s).first.fix = 5
                · rw [f5, split_right l m s i r hs hat hsm' f5]
                · have f3' : (low l s).first.fix = 3 := by omega
                  have hr : r = [] := by
                    refine List.eq_nil_of_length_eq_zero ?_
                    rcases Nat.eq_zero_or_pos r.length with h | h
                    · exact h
                    · exact absurd ⟨f3', by rw [hat, List.length_cons]; omega⟩ f3
                  subst hr
                  exact split_one _ _ _ _
/-- The reference resolves as the program does. -/
theorem ref_eq (l : List Op) (hl : ∀ o ∈ l, o.bad = 0) : ∀ (m : Nat) (s : List Opd), s.length ≤ m → refP l m s = resP l m s
  | 0, s, h => rfl
  | m + 1, s, h => by
    rw [refP, resP]
    split
    · rfl
    · rename_i h0
      rw [refBody_congr l s h0 (g' := resP l m) (fun q hq => ref_eq l hl m q (by omega)), body_eq l hl m s h]

/-- A tree that is of the right form, or an arrow's name. -/
def FormA (t : Raw) : Prop := t.form = true ∨ t.name = arrR ∨ t.name = arrL
theorem fa_app {a b : Raw} (ha : a.form = true) (hb : b.form = true) : (appT a b).form = true := by
  simp [appT, Raw.form, Raw.forms, formed, ha, hb]
theorem fa_join {o a b : Raw} (ho : FormA o) (ha : a.form = true) (hb : b.form = true) : (joinT o a b).form = true := by
  unfold joinT
  split
  · simp [Raw.form, Raw.forms, formed, ha, hb]
  · rename_i h1
    split
    · simp [Raw.form, Raw.forms, formed, ha, hb]
    · rename_i h2
      rcases ho with ho | ho | ho
      · exact fa_app (fa_app ho ha) hb
      · exact absurd ho h1
      · exact absurd ho h2
theorem fa_joinR (z : Raw) : ∀ (ops parts : List Raw), parts.length = ops.length + 1 → (∀ o ∈ ops, FormA o) → (∀ p ∈ parts, p.form = true) → (joinR z ops parts).form = true
  | [], [p], _, _, hp => hp p (by simp)
  | o :: os, p :: ps, h, ho, hp => by
    rw [joinR]
    exact fa_join (ho o List.mem_cons_self) (hp p List.mem_cons_self) (fa_joinR z os ps (by simpa using h) (fun x hx => ho x (List.mem_cons_of_mem _ hx)) (fun x hx => hp x (List.mem_cons_of_mem _ hx)))
  | [], [], h, _, _ => by simp at h
  | [], _ :: _ :: _, h, _, _ => by simp at h
  | _ :: _, [], h, _, _ => by simp at h
theorem fa_joinL : ∀ (ops parts : List Raw) (t : Raw), t.form = true → (∀ o ∈ ops, FormA o) → (∀ p ∈ parts, p.form = true) → (joinL t (ops.zip parts)).form = true
  | [], parts, t, ht, _, _ => by simpa [joinL] using ht
  | o :: os, [], t, ht, _, _ => by simpa [joinL] using ht
  | o :: os, p :: ps, t, ht, ho, hp => by
    have := fa_joinL os ps (joinT o t p) (fa_join (ho o List.mem_cons_self) ht (hp p List.mem_cons_self)) (fun x hx => ho x (List.mem_cons_of_mem _ hx)) (fun x hx => hp x (List.mem_cons_of_mem _ hx))
    simpa [joinL] using this
theorem fa_joined (fix : Int) (ops parts : List Raw) (h : parts.length = ops.length + 1) (ho : ∀ o ∈ ops, FormA o) (hp : ∀ p ∈ parts, p.form = true) : (joined fix ops parts).form = true := by
  unfold joined
  split
  · exact fa_joinR _ _ _ h ho hp
  · cases parts with
    | nil => simp at h
    | cons p ps => exact fa_joinL ops ps p (hp p List.mem_cons_self) ho (fun x hx => hp x (List.mem_cons_of_mem _ hx))
theorem fa_all {g : List Opd → Except Int Raw} : ∀ (Q : List (List Opd)) (ts : List Raw), (∀ q ∈ Q, ∀ t, g q = .ok t → t.form = true) → allOk g Q = .ok ts → ∀ t ∈ ts, t.form = true
  | [], ts, _, h => by rw [allOk] at h; cases h; simp
  | q :: r, ts, hq, h => by
    rw [allOk] at h
    cases e : g q with
    | error e' => rw [e] at h; cases h
    | ok t =>
      rw [e] at h
      simp only at h
      cases e2 : allOk g r with
      | error e' => rw [e2] at h; cases h
      | ok ts' =>
        rw [e2] at h
        cases h
        intro y hy
        rcases List.mem_cons.1 hy with rfl | hy
        · exact hq q List.mem_cons_self y e
        · exact fa_all r ts' (fun x hx => hq x (List.mem_cons_of_mem _ hx)) e2 y hy
theorem fa_fold : ∀ (s : List Opd) (t : Raw), t.form = true → (∀ x ∈ s, x.tree.form = true) → (s.foldl (fun t x => appT t x.tree) t).form = true
  | [], t, h, _ => h
  | x :: r, t, h, hs => by
    rw [List.foldl_cons]
    exact fa_fold r _ (fa_app h (hs x List.mem_cons_self)) (fun y hy => hs y (List.mem_cons_of_mem _ hy))
theorem arrow_op (l : List Op) {x : Opd} (h : x.arrow = true) : ∃ o, opOf l x = some o ∧ (o.fix = 4 ∨ o.fix = 5) ∧ (x.tree.name = arrR ∨ x.tree.name = arrL) := by
  unfold Opd.arrow at h
  simp only [Bool.and_eq_true, Bool.or_eq_true, decide_eq_true_eq, Bool.not_eq_true'] at h
  obtain ⟨⟨⟨h1, h2⟩, _⟩, h3⟩ := h
  unfold opOf look
  rw [if_neg (by simp [h1, h2])]
  rcases h3 with h3 | h3
  · rw [if_pos h3]; exact ⟨_, rfl, .inr rfl, .inl h3⟩
  · rw [if_neg (by rw [h3]; decide), if_pos h3]; exact ⟨_, rfl, .inl rfl, .inr h3⟩
theorem pick_get (l : List Op) (P : Int) : ∀ (q : List Opd) (k : Nat), ∀ i ∈ pick l P k q, ∃ j, i = k + j ∧ ∃ h : j < q.length, ∃ o, opOf l q[j] = some o ∧ o.prec = P
  | [], k, i, h => by cases h
  | x :: r, k, i, h => by
    have ih := pick_get l P r (k + 1) i
    rw [pick] at h
    have next : i ∈ pick l P (k + 1) r → ∃ j, i = k + j ∧ ∃ h : j < (x :: r).length, ∃ o, opOf l (x :: r)[j] = some o ∧ o.prec = P := fun h => by
      obtain ⟨j, rfl, hj, o, ho, hp⟩ := ih h
      exact ⟨j + 1, by omega, by simpa using hj, o, by simpa using ho, hp⟩
    cases e : opOf l x with
    | none => rw [e] at h; exact next h
    | some o =>
      rw [e] at h
      simp only at h
      split at h
      · rename_i hp
        rcases List.mem_cons.1 h with rfl | h
        · exact ⟨0, rfl, by simp, o, by simpa using e, hp⟩
        · exact next h
      · exact next h
/-- The operators of the lowest level. -/
theorem low_get (l : List Op) (s : List Opd) (i : Nat) (hi : i ∈ (low l s).at_) : ∃ h : i < s.length, ∃ o, opOf l s[i] = some o ∧ ((low l s).same = true → o.fix = (low l s).first.fix) := by
  have h0 : (low l s).at_.length ≠ 0 := fun e => by rw [List.eq_nil_of_length_eq_zero e] at hi; cases hi
  obtain ⟨_, hp, _, hf⟩ := low_spec l s h0
  rw [← hp] at hi
  obtain ⟨j, rfl, hj, o, ho, hpr⟩ := pick_get l _ s 0 i hi
  simp only [Nat.zero_add]
  exact ⟨hj, o, ho, fun hs => hf.1 hs _ (List.getElem_mem hj) o ho hpr⟩
theorem segs_sub (s : List Opd) : ∀ (E : List Nat) (b : Nat), ∀ q ∈ segs s b E, ∀ x ∈ q, x ∈ s
  | [], b, q, h, x, hx => by cases h
  | e :: r, b, q, h, x, hx => by
    rw [segs, List.mem_cons] at h
    rcases h with rfl | h
    · exact List.mem_of_mem_take (List.mem_of_mem_drop hx)
    · exact segs_sub s r (e + 1) q h x hx
def OkForm (x : Opd) : Prop := x.tree.form = true ∨ x.arrow = true
theorem OkForm.fa {x : Opd} (h : OkForm x) : FormA x.tree := by
  rcases h with h | h
  · exact .inl h
  · obtain ⟨_, _, _, h'⟩ := arrow_op [] h
    exact .inr h'
theorem resP_form (l : List Op) : ∀ (m : Nat) (s : List Opd) (t : Raw), (∀ x ∈ s, OkForm x) → resP l m s = .ok t → t.form = true
  | 0, s, t, _, h => by rw [resP] at h; cases h
  | m + 1, s, t, hs, h => by
    rw [resP] at h
    split at h
    · cases h
    · rename_i hz
      unfold resBody at h
      split at h
      · rename_i h0
        cases h
        have hall : ∀ x ∈ s, x.tree.form = true := fun x hx => by
          rcases hs x hx with h1 | h1
          · exact h1
          · obtain ⟨o, ho, _⟩ := arrow_op l h1
            exact absurd h0 ((low_min l s lowZ 0).1 x hx o ho).1
        unfold appAll
        cases s with
        | nil => simp at hz
        | cons x r =>
          simp only [List.drop_succ_cons, List.drop_zero, List.getD_cons_zero]
          exact fa_fold r _ (hall x List.mem_cons_self) (fun y hy => hall y (List.mem_cons_of_mem _ hy))
      · rename_i h0
        have unary : ∀ (i : Nat) (rest : List Opd) (there : Bool), i ∈ (low l s).at_ → (low l s).same = true → ((low l s).first.fix = 1 ∨ (low l s).first.fix = 2) → (∀ x ∈ rest, x ∈ s) → unT (resP l m) (s.getD i opdZ).tree rest there = .ok t → t.form = true := fun i rest there hi hsm hf hr hu => by
          obtain ⟨hil, o, ho, hfx⟩ := low_get l s i hi
          have hfx := hfx hsm
          have hform : s[i].tree.form = true := by
            rcases hs s[i] (List.getElem_mem hil) with h1 | h1
            · exact h1
            · obtain ⟨o', ho', hf', _⟩ := arrow_op l h1
              rw [ho] at ho'
              cases ho'
              omega
          have e : s.getD i opdZ = s[i] := by simp [hil]
          rw [e] at hu
          unfold unT at hu
          split at hu
          · cases e2 : resP l m rest with
            | error e' => rw [e2] at hu; cases hu
            | ok t' =>
              rw [e2] at hu
              cases hu
              exact fa_app hform (resP_form l m rest t' (fun x hx => hs x (hr x hx)) e2)
          · cases hu
        split at h
        · cases h
        · rename_i hsm
          have hsm' : (low l s).same = true := by simpa using hsm
          split at h
          · rename_i f1
            exact unary _ _ _ (headOf_mem h0) hsm' (.inl f1) (fun x hx => List.mem_of_mem_drop hx) h
          · split at h
            · rename_i f2
              exact unary _ _ _ (lastOf_mem h0) hsm' (.inr f2) (fun x hx => List.mem_of_mem_take hx) h
            · split at h
              · cases h
              · unfold binT at h
                cases e : allOk (resP l m) (segs s 0 ((low l s).at_ ++ [s.length])) with
                | error e' => rw [e] at h; cases h
                | ok ts =>
                  rw [e] at h
                  cases h
                  have hl := allOk_len _ _ e
                  rw [segs_len] at hl
                  refine fa_joined _ _ _ (by rw [hl]; simp [opTrees]) (fun o ho => ?_) (fa_all _ _ (fun q hq t ht => resP_form l m q t (fun x hx => hs x (segs_sub s _ 0 q hq x hx)) ht) e)
                  obtain ⟨i, hi, rfl⟩ := List.mem_map.1 ho
                  have hil := (low_at l s).2 i hi
                  have e' : s.getD i opdZ = s[i] := by simp [hil]
                  rw [e']
                  exact (hs _ (List.getElem_mem hil)).fa
end Lfc

/- The reference's arrow and find. -/
set_option linter.unusedVariables false
set_option linter.unusedSimpArgs false
namespace Lfc
def Opd.rarrow (x : Opd) : Bool := !x.closed && decide (x.tree.kind = 1) && (decide (x.tree.name = arrR) || decide (x.tree.name = arrL))
theorem find_at {l : List Op} {n : List UInt8} {j : Nat} (h : j < l.length) (hb : ∀ o ∈ l.take j, o.name ≠ n) (he : l[j].name = n) : l.find? (fun o => decide (o.name = n)) = some l[j] := by
  rw [List.find?_eq_some_iff_append]
  refine ⟨by simpa using he, l.take j, l.drop (j + 1), ?_, fun a ha => by simpa using hb a ha⟩
  rw [← List.drop_eq_getElem_cons h, List.take_append_drop]
theorem find_no {l : List Op} {n : List UInt8} (hb : ∀ o ∈ l, o.name ≠ n) : l.find? (fun o => decide (o.name = n)) = none := by
  rw [List.find?_eq_none]
  intro x hx
  simpa using hb x hx
end Lfc
namespace Go.Proofs.YtkhfnkokdmoipaaDoor
open Go.RowKit Go.Maps Go.WideMaps

set_option maxRecDepth 100000 in
set_option maxHeartbeats 2000000 in
theorem rarrow_any (x : Lfc.Opd) (v : Value) (w : World) (hv : OpdV w x v) : Calls Tryd.prog 33 #[v] w fun e w' => e = .returned (.bool x.rarrow) ∧ Below w.heap.size w w' := by
  obtain ⟨⟨k, n, p, ts⟩, cl⟩ := x
  obtain ⟨k', n', p', ts', A, c, e, rfl, hT⟩ := hv
  cases e
  obtain ⟨z, hz⟩ : ∃ z, Lfc.Opd.rarrow ⟨.node k n p ts, cl⟩ = z := ⟨_, rfl⟩
  rw [hz]
  have HZ := Lib.hid hz
  clear hT hz
  obtain ⟨w1, hw1⟩ : ∃ w1, w.alloc (.cells #[.int .i64 k, S n, .int .i64 p, .slice A ts.length c, .bool cl] 42) = w1 := ⟨_, rfl⟩
  have b1 : Below w.heap.size w w1 := by rw [← hw1]; exact (Below.refl _ _).alloc (Nat.le_refl _) _
  have qo : w1.heap[w.heap.size]? = some (.cells #[.int .i64 k, S n, .int .i64 p, .slice A ts.length c, .bool cl] 42 (0, 0)) := by rw [← hw1]; exact heap_alloc_new _ _
  have x4 : w1.cell? ⟨w.heap.size, 4, none⟩ = some (.bool cl) := Lib.cell_of_heap qo 4
  have x0 : w1.cell? ⟨w.heap.size, 0, none⟩ = some (.int .i64 k) := Lib.cell_of_heap qo 0
  have x1 : w1.cell? ⟨w.heap.size, 1, none⟩ = some (S n) := Lib.cell_of_heap qo 1
  clear qo
  cases cl
  · by_cases hk : k = 1
    · subst hk
      by_cases hr : n = [45, 62]
      · subst hr
        go_enter Tryd.func33, Tryd.ntmps33
        go_upto_region 1 with fail
        clear hw1
        go_wp2_with fail
        go_ret
        exact ⟨by rw [← HZ.out]; simp [Lfc.Opd.rarrow, Lfc.Raw.kind, Lfc.Raw.name, Lfc.arrR, Lfc.arrL], b1⟩
      · by_cases hl2 : n = [60, 45]
        · subst hl2
          go_enter Tryd.func33, Tryd.ntmps33
          go_upto_region 1 with fail
          clear hw1
          go_wp2_with fail
          go_ret
          exact ⟨by rw [← HZ.out]; simp [Lfc.Opd.rarrow, Lfc.Raw.kind, Lfc.Raw.name, Lfc.arrR, Lfc.arrL], b1⟩
        · have hr2 : (n == [45, 62]) = false := by simpa using hr
          have hl3 : (n == [60, 45]) = false := by simpa using hl2
          have HR := Lib.hid hr
          have HL := Lib.hid hl2
          have hr3 : ¬ n.toArray = #[45, 62] := fun e => hr (by simpa using congrArg Array.toList e)
          have hl4 : ¬ n.toArray = #[60, 45] := fun e => hl2 (by simpa using congrArg Array.toList e)
          clear hr hl2
          go_enter Tryd.func33, Tryd.ntmps33
          go_upto_region 1 with fail
          clear hw1
          go_wp2_with fail
          go_ret
          exact ⟨by rw [← HZ.out]; simp [Lfc.Opd.rarrow, Lfc.Raw.kind, Lfc.Raw.name, Lfc.arrR, Lfc.arrL, HR.out, HL.out], b1⟩
    · have hk2 : (k == 1) = false := by simpa using hk
      have HK := Lib.hid hk
      clear hk
      go_enter Tryd.func33, Tryd.ntmps33
      go_upto_region 1 with fail
      clear hw1
      go_wp2_with fail
      go_ret
      exact ⟨by rw [← HZ.out]; simp [Lfc.Opd.rarrow, Lfc.Raw.kind, Lfc.Raw.name, Lfc.arrR, Lfc.arrL, HK.out], b1⟩
  · go_enter Tryd.func33, Tryd.ntmps33
    go_upto_region 1 with fail
    clear hw1
    go_wp2_with fail
    go_ret
    exact ⟨by rw [← HZ.out]; simp [Lfc.Opd.rarrow, Lfc.Raw.kind, Lfc.Raw.name, Lfc.arrR, Lfc.arrL], b1⟩

/-- What find answers: the operator's fixity and level. -/
def FindPost (w : World) (r : Option Lfc.Op) (e : Ending) (w' : World) : Prop :=
  (match r with
    | none => e = .returned (.tuple #[.agg #[S [], .int .i64 0, .int .i64 0], .bool false])
    | some o => ∃ n : List UInt8, e = .returned (.tuple #[.agg #[S n, .int .i64 o.fix, .int .i64 o.prec], .bool true])) ∧ Below w.heap.size w w'

set_option maxRecDepth 100000 in
set_option maxHeartbeats 4000000 in
theorem rfind_any (l : List Lfc.Op) (x : Lfc.Opd) (v : Value) (Al : Option Addr) (cl0 : Nat) (w : World) (hll : l.length ≤ 1000000) (hl : OpsAt w Al l) (hv : OpdV w x v) :
    Calls Tryd.prog 56 #[.slice Al l.length cl0, v] w (FindPost w (Lfc.opOf l x)) := by
  obtain ⟨⟨k, n, p, ts⟩, cl⟩ := x
  obtain ⟨k', n', p', ts', A, c, e, rfl, hT⟩ := hv
  cases e
  clear hT
  obtain ⟨wa, hwa⟩ : ∃ wa, (w.alloc (.cells #[.int .i64 k, S n, .int .i64 p, .slice A ts.length c, .bool cl] 42)).alloc (.cells #[S [], .int .i64 0, .int .i64 0] 36) = wa := ⟨_, rfl⟩
  have ba : Below w.heap.size w wa := by rw [← hwa]; exact ((Below.refl _ _).alloc (Nat.le_refl _) _).alloc (by simp) _
  have qo : wa.heap[w.heap.size]? = some (.cells #[.int .i64 k, S n, .int .i64 p, .slice A ts.length c, .bool cl] 42 (0, 0)) := by rw [← hwa]; exact heap_alloc_old _ _ _ _ (heap_alloc_new _ _)
  have qr : wa.heap[w.heap.size + 1]? = some (.cells #[S [], .int .i64 0, .int .i64 0] 36 (0, 0)) := by
    rw [← hwa]
    have := heap_alloc_new (w.alloc (.cells #[.int .i64 k, S n, .int .i64 p, .slice A ts.length c, .bool cl] 42)) (.cells #[S [], .int .i64 0, .int .i64 0] 36)
    simpa using this
  have hsa := eq2 (show wa.heap.size = w.heap.size + 2 by rw [← hwa]; simp)
  have x0 : wa.cell? ⟨w.heap.size, 0, none⟩ = some (.int .i64 k) := Lib.cell_of_heap qo 0
  have x1 : wa.cell? ⟨w.heap.size, 1, none⟩ = some (S n) := Lib.cell_of_heap qo 1
  have x4 : wa.cell? ⟨w.heap.size, 4, none⟩ = some (.bool cl) := Lib.cell_of_heap qo 4
  have BA := Lib.hid ba
  have QR := Lib.hid qr
  have QO := Lib.hid qo
  have HL := Lib.hid (hl.below ba)
  clear qo ba qr hl
  by_cases hc : cl = true ∨ k ≠ 1
  · have he : Lfc.opOf l ⟨.node k n p ts, cl⟩ = none := by
      unfold Lfc.opOf
      rw [if_pos]
      rcases hc with h1 | h1
      · simp [h1]
      · simp [Lfc.Raw.kind, h1]
    rw [he]
    obtain ⟨s1, s2, s3, g1, g2, g3, ⟨y0, y1, y2⟩, ⟨f0, f1, f2⟩, hq, ho⟩ := put3 QR.out (S []) (.int .i64 0) (.int .i64 0)
    have HQ := Lib.hid hq
    have HB := Lib.hid (Oth.below BA.out ho (by omega) BA.out.size)
    clear hq ho he
    rcases (show cl = true ∨ (cl = false ∧ k ≠ 1) by cases cl <;> simp_all) with rfl | ⟨rfl, hk⟩
    · go_enter Tryd.func56, Tryd.ntmps56
      go_upto_region 1 with fail
      clear hwa
      go_wp2_with fail
      refine bodyPost_ret (results_op2 rfl _ _ _ _ _ _ rfl HQ.out) rfl ?_
      exact ⟨rfl, HB.out⟩
    · have hk2 : (k == 1) = false := by simpa using hk
      have hk3 : (!k == 1) = true := by simp [hk2]
      clear hk hc
      go_enter Tryd.func56, Tryd.ntmps56
      go_upto_region 1 with fail
      clear hwa
      go_wp2_with fail
      refine bodyPost_ret (results_op2 rfl _ _ _ _ _ _ rfl HQ.out) rfl ?_
      exact ⟨rfl, HB.out⟩
  · obtain ⟨rfl, rfl⟩ : cl = false ∧ k = 1 := by cases cl <;> simp_all
    have he : Lfc.opOf l ⟨.node 1 n p ts, false⟩ = Lfc.look l n := by
      unfold Lfc.opOf
      rw [if_neg (by simp [Lfc.Raw.kind])]; rfl
    rw [he]
    clear he hc
    by_cases hr : n = [45, 62]
    · subst hr
      rw [show Lfc.look l [45, 62] = some ⟨[], 5, -1⟩ from rfl]
      obtain ⟨s1, s2, s3, g1, g2, g3, ⟨y0, y1, y2⟩, ⟨f0, f1, f2⟩, hq, ho⟩ := put3 QR.out (S [45, 62]) (.int .i64 5) (.int .i64 (-1))
      have HQ := Lib.hid hq
      have HB := Lib.hid (Oth.below BA.out ho (by omega) BA.out.size)
      clear hq ho
      go_enter Tryd.func56, Tryd.ntmps56
      go_upto_region 1 with fail
      clear hwa
      go_wp2_with fail
      refine bodyPost_ret (results_op2 rfl _ _ _ _ _ _ rfl HQ.out) rfl ?_
      exact ⟨⟨_, rfl⟩, HB.out⟩
    · by_cases hl2 : n = [60, 45]
      · subst hl2
        rw [show Lfc.look l [60, 45] = some ⟨[], 4, -1⟩ from rfl]
        obtain ⟨s1, s2, s3, g1, g2, g3, ⟨y0, y1, y2⟩, ⟨f0, f1, f2⟩, hq, ho⟩ := put3 QR.out (S [60, 45]) (.int .i64 4) (.int .i64 (-1))
        have HQ := Lib.hid hq
        have HB := Lib.hid (Oth.below BA.out ho (by omega) BA.out.size)
        clear hq ho
        go_enter Tryd.func56, Tryd.ntmps56
        go_upto_region 1 with fail
        clear hwa
        go_wp2_with fail
        refine bodyPost_ret (results_op2 rfl _ _ _ _ _ _ rfl HQ.out) rfl ?_
        exact ⟨⟨_, rfl⟩, HB.out⟩
      · have hr2 : (n == [45, 62]) = false := by simpa using hr
        have hl3 : (n == [60, 45]) = false := by simpa using hl2
        have HLK : Hid (Lfc.look l n = l.find? (fun o => decide (o.name = n))) := Lib.hid (by unfold Lfc.look; rw [if_neg (show ¬ n = Lfc.arrR from hr), if_neg (show ¬ n = Lfc.arrL from hl2)])
        clear hr hl2
        go_enter Tryd.func56, Tryd.ntmps56
        go_upto_region 1 with fail
        clear hwa
        go_wp2_with fail
        go_loopw [6] (fun i wr => ∃ j : Nat, j ≤ l.length ∧ i = .int .i64 j ∧ Hid (∀ o ∈ l.take j, o.name ≠ n) ∧ Hid (Below wa.heap.size wa wr)) (fun i _ => l.length - (intOf i).toNat)
        case atStart => exact ⟨0, Nat.zero_le _, rfl, Lib.hid (by simp), Lib.hid (Below.refl _ _)⟩
        case round =>
          obtain ⟨j, hj, rfl, HN, HB⟩ := hrel
          clear x0 x1 x4
          by_cases hlt : j < l.length
          · obtain ⟨b, o, rfl, hb, hcs⟩ := HL.out.2 (by intro e; rw [e] at hlt; simp at hlt)
            obtain ⟨c0, c1, c2⟩ := hcs j hlt
            have d0 := (HB.out.cell (p := ⟨b, _, none⟩) hb).trans c0
            have x1 : wr.cell? ⟨w.heap.size, 1, none⟩ = some (S n) := (HB.out.cell (p := ⟨w.heap.size, 1, none⟩) (lt_of_block QO.out)).trans (Lib.cell_of_heap QO.out 1)
            have HC := Lib.hid (And.intro c1 c2)
            have hi0 : (0 : Int) ≤ (j : Int) := Int.natCast_nonneg _
            have hi1 : (j : Int) < (l.length : Int) := by omega
            have HG := Lib.hid (Lfc.find_at (n := n) hlt HN.out)
            have HTK : Hid (∀ o ∈ l.take (j + 1), o.name ≠ n ∨ o = l[j]) := Lib.hid (fun o ho => by
              rw [List.take_succ_eq_append_getElem hlt] at ho
              rcases List.mem_append.1 ho with ho | ho
              · exact .inl (HN.out o ho)
              · simp at ho; exact .inr ho)
            generalize hm : l[j] = y at *
            clear c0 c1 c2 hcs hm
            obtain ⟨yn, yf, yp⟩ := y
            have qr := (HB.out.block _ (lt_of_block QR.out)).trans QR.out
            by_cases hy : yn = n
            · subst hy
              have HR := Lib.hid (HLK.out.trans (HG.out rfl))
              have x5 : wr.cell? ⟨b, o + j * 3 + 1, none⟩ = some (.int .i64 yf) := (HB.out.cell (p := ⟨b, _, none⟩) hb).trans HC.out.1
              have x6 : wr.cell? ⟨b, o + j * 3 + 2, none⟩ = some (.int .i64 yp) := (HB.out.cell (p := ⟨b, _, none⟩) hb).trans HC.out.2
              obtain ⟨s1, s2, s3, g1, g2, g3, ⟨y0, y1, y2⟩, ⟨f0, f1, f2⟩, hq, ho⟩ := put3 (W := wr.drew) qr (S yn) (.int .i64 yf) (.int .i64 yp)
              have hbw := BA.out.trans (HB.out.mono BA.out.size)
              have HQ := Lib.hid hq
              have HBB := Lib.hid (Oth.below hbw.drew ho (by omega) hbw.size)
              clear hq ho HTK HG HN HC qr hbw
              go_wp2_with fail
              go_region
              all_goals
                go_wp2_with fail
                refine bodyPost_ret (results_op2 rfl _ _ _ _ _ _ rfl HQ.out) rfl ?_
                rw [HR.out]
                exact ⟨⟨_, rfl⟩, HBB.out⟩
            · have hy2 : (yn == n) = false := by simpa using hy
              have HN2 : Hid (∀ o ∈ l.take (j + 1), o.name ≠ n) := Lib.hid (fun o ho => by
                rcases HTK.out o ho with h | h
                · exact h
                · rw [h]; exact hy)
              have HBD := Lib.hid (HB.out.drew)
              clear hy HTK HG HN HC qr HB
              go_wp2_with fail
              go_region
              all_goals
                go_wp2_with fail
                go_roundw
                case rel => exact ⟨j + 1, by omega, by go_num, HN2, HBD⟩
                case measure => simp [intOf]; omega
          · obtain rfl : j = l.length := by omega
            have HR : Hid (Lfc.look l n = none) := Lib.hid (HLK.out.trans (Lfc.find_no (fun o ho => HN.out o (by rw [List.take_length]; exact ho))))
            have qr := (HB.out.block _ (lt_of_block QR.out)).trans QR.out
            obtain ⟨s1, s2, s3, g1, g2, g3, ⟨y0, y1, y2⟩, ⟨f0, f1, f2⟩, hq, ho⟩ := put3 qr (S []) (.int .i64 0) (.int .i64 0)
            have hbw := BA.out.trans (HB.out.mono BA.out.size)
            have HQ := Lib.hid hq
            have HBB := Lib.hid (Oth.below hbw ho (by omega) hbw.size)
            clear hq ho HN qr hbw
            go_wp2_with fail
            refine bodyPost_ret (results_op2 rfl _ _ _ _ _ _ rfl HQ.out) rfl ?_
            rw [HR.out]
            exact ⟨rfl, HBB.out⟩
end Go.Proofs.YtkhfnkokdmoipaaDoor
