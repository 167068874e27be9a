/- The plain model of orders (layer 38). No program in sight. -/
import Derived.Test.YtadjpadieljjlaaGreatPlain
set_option linter.unusedVariables false
set_option linter.unusedSimpArgs false
namespace Lfc

inductive Ord where
  | node (kind arg : Int) (parts : List Ord)
mutual
def Ord.size : Ord → Nat
  | .node _ _ ps => Ord.sizes ps + 1
def Ord.sizes : List Ord → Nat
  | [] => 0
  | a :: r => Ord.size a + Ord.sizes r
end
mutual
/-- The number of orders, counted no further than a limit. -/
def Ord.cnt : Ord → Int → Int
  | .node _ _ ps, lim => Ord.cnts ps lim 1
def Ord.cnts : List Ord → Int → Int → Int
  | [], _, n => n
  | a :: r, lim, n => if lim < n then n else Ord.cnts r lim (n + Ord.cnt a (lim - n))
end
mutual
def Ord.form : Ord → Bool
  | .node k a ps => if k = 1 then decide (ps.length = 0) else if k = 2 ∨ k = 3 then decide (a = 0) && decide (0 < ps.length) && Ord.forms ps else false
def Ord.forms : List Ord → Bool
  | [] => true
  | a :: r => Ord.form a && Ord.forms r
end
mutual
def Ord.rng (lo hi : Int) : Ord → Bool
  | .node k a ps => if k = 1 then decide (lo ≤ a) && decide (a ≤ hi) else Ord.rngs lo hi ps
def Ord.rngs (lo hi : Int) : List Ord → Bool
  | [] => true
  | a :: r => Ord.rng lo hi a && Ord.rngs lo hi r
end
mutual
def Ord.mv (n : Int) : Ord → Ord
  | .node k a ps => .node k (if k = 1 then a + n else 0) (Ord.mvs n ps)
def Ord.mvs (n : Int) : List Ord → List Ord
  | [] => []
  | a :: r => Ord.mv n a :: Ord.mvs n r
end
mutual
def Ord.mvr (n : Int) : Ord → Ord
  | .node k a ps => .node k (if k = 1 then a + n else a) (Ord.mvrs n ps)
def Ord.mvrs (n : Int) : List Ord → List Ord
  | [] => []
  | a :: r => Ord.mvr n a :: Ord.mvrs n r
end
mutual
def Ord.shp : Ord → Ord → Bool
  | .node k _ ps, .node k' _ ps' => decide (k = k') && Ord.shps ps ps'
def Ord.shps : List Ord → List Ord → Bool
  | [], [] => true
  | a :: r, a' :: r' => Ord.shp a a' && Ord.shps r r'
  | _, _ => false
end
mutual
def Ord.eqo : Ord → Ord → Bool
  | .node k a ps, .node k' a' ps' => decide (k = k') && decide (a = a') && Ord.eqos ps ps'
def Ord.eqos : List Ord → List Ord → Bool
  | [], [] => true
  | a :: r, a' :: r' => Ord.eqo a a' && Ord.eqos r r'
  | _, _ => false
end
mutual
/-- The numbers of arguments are of moderate size. -/
def Ord.mod (b : Int) : Ord → Bool
  | .node _ a ps => decide (-b ≤ a) && decide (a ≤ b) && Ord.mods b ps
def Ord.mods (b : Int) : List Ord → Bool
  | [] => true
  | a :: r => Ord.mod b a && Ord.mods b r
end
/-- The error of an order for n arguments, or 0. -/
def Ord.vld (o : Ord) (n : Int) : Int := if 64 < o.size ∨ o.form = false then 92 else if o.rng 0 (n - 1) = false then 5 else 0
/-- The error of an order of a declaration with so many implicit parameters, of n ones, or 0. -/
def Ord.expE (o : Ord) (im n : Int) : Int := if 64 < o.size ∨ o.form = false then 92 else if im < 0 ∨ n < im ∨ o.rng 1 (n - im) = false then 5 else 0

theorem Ord.sizes_app (a b : List Ord) : Ord.sizes (a ++ b) = Ord.sizes a + Ord.sizes b := by
  induction a with
  | nil => simp [Ord.sizes]
  | cons x r ih => simp only [List.cons_append, Ord.sizes, ih]; omega
theorem Ord.size_pos (t : Ord) : 1 ≤ t.size := by cases t; simp [Ord.size]
theorem Ord.sizes_len (l : List Ord) : l.length ≤ Ord.sizes l := by
  induction l with
  | nil => simp [Ord.sizes]
  | cons a r ih => have := a.size_pos; simp only [Ord.sizes, List.length_cons]; omega
theorem Ord.sizes_mem (l : List Ord) (t : Ord) (h : t ∈ l) : t.size ≤ Ord.sizes l := by
  induction l with
  | nil => cases h
  | cons a r ih =>
    simp only [Ord.sizes]
    rcases List.mem_cons.1 h with rfl | h
    · omega
    · have := ih h; omega
theorem Ord.sizes_take (ts : List Ord) (k : Nat) (h : k < ts.length) : Ord.sizes (ts.take (k + 1)) = Ord.sizes (ts.take k) + ts[k].size := by
  rw [List.take_succ_eq_append_getElem h, Ord.sizes_app]; simp [Ord.sizes]
theorem Ord.sizes_take_le (ts : List Ord) (k : Nat) : Ord.sizes (ts.take k) ≤ Ord.sizes ts := by
  have : Ord.sizes ts = Ord.sizes (ts.take k) + Ord.sizes (ts.drop k) := by rw [← Ord.sizes_app, List.take_append_drop]
  omega
theorem cnt_spec (m : Nat) : ∀ (o : Ord) (lim : Int), o.size ≤ m → 0 ≤ lim → 1 ≤ o.cnt lim ∧ o.cnt lim ≤ o.size ∧ ((o.size : Int) ≤ lim → o.cnt lim = o.size) ∧ (lim < (o.size : Int) → lim < o.cnt lim) := by
  induction m with
  | zero => intro o lim h; have := o.size_pos; omega
  | succ m ih =>
    intro o lim h hl
    obtain ⟨k, a, ps⟩ := o
    simp only [Ord.size] at h
    have hs : ∀ (l : List Ord) (n : Int), Ord.sizes l ≤ m → 1 ≤ n → n ≤ Ord.cnts l lim n ∧ Ord.cnts l lim n ≤ n + (Ord.sizes l : Int) ∧ (n + (Ord.sizes l : Int) ≤ lim → Ord.cnts l lim n = n + (Ord.sizes l : Int)) ∧ (lim < n + (Ord.sizes l : Int) → lim < Ord.cnts l lim n) := by
      intro l
      induction l with
      | nil => intro n _ _; simp [Ord.cnts, Ord.sizes]
      | cons p r ihr =>
        intro n hm hn
        simp only [Ord.sizes] at hm ⊢
        rw [Ord.cnts]
        by_cases hlt : lim < n
        · rw [if_pos hlt]; have := p.size_pos; omega
        · rw [if_neg hlt]
          obtain ⟨c1, c2, c3, c4⟩ := ih p (lim - n) (by omega) (by omega)
          obtain ⟨d1, d2, d3, d4⟩ := ihr (n + p.cnt (lim - n)) (by omega) (by omega)
          refine ⟨by omega, by omega, fun hle => ?_, fun hgt => ?_⟩
          · have e := c3 (by omega)
            rw [e] at d3 ⊢
            have := d3 (by omega)
            omega
          · by_cases hp : lim - n < (p.size : Int)
            · have := c4 hp
              omega
            · have e := c3 (by omega)
              rw [e] at d4 ⊢
              exact d4 (by omega)
    obtain ⟨e1, e2, e3, e4⟩ := hs ps 1 (by omega) (by omega)
    rw [Ord.cnt, Ord.size]
    refine ⟨by omega, by omega, fun h => ?_, fun h => e4 (by omega)⟩
    rw [e3 (by omega)]; omega
theorem forms_specO : ∀ (ts : List Ord), Ord.forms ts = true ↔ ∀ k (h : k < ts.length), ts[k].form = true
  | [] => by simp [Ord.forms]
  | a :: r => by
    rw [Ord.forms, Bool.and_eq_true, forms_specO r]
    constructor
    · rintro ⟨h1, h2⟩ k h
      cases k with
      | zero => exact h1
      | succ k => exact h2 k (by simpa using h)
    · intro h
      exact ⟨h 0 (by simp), fun k hk => h (k + 1) (by simpa using hk)⟩
theorem forms_falseO (ts : List Ord) (k : Nat) (h : k < ts.length) (hf : ts[k].form = false) : Ord.forms ts = false := by
  cases hs : Ord.forms ts
  · rfl
  · rw [(forms_specO ts).1 hs k h] at hf; cases hf
theorem rngs_spec (lo hi : Int) : ∀ (ts : List Ord), Ord.rngs lo hi ts = true ↔ ∀ k (h : k < ts.length), ts[k].rng lo hi = true
  | [] => by simp [Ord.rngs]
  | a :: r => by
    rw [Ord.rngs, Bool.and_eq_true, rngs_spec lo hi r]
    constructor
    · rintro ⟨h1, h2⟩ k h
      cases k with
      | zero => exact h1
      | succ k => exact h2 k (by simpa using h)
    · intro h
      exact ⟨h 0 (by simp), fun k hk => h (k + 1) (by simpa using hk)⟩
theorem rngs_false (lo hi : Int) (ts : List Ord) (k : Nat) (h : k < ts.length) (hf : ts[k].rng lo hi = false) : Ord.rngs lo hi ts = false := by
  cases hs : Ord.rngs lo hi ts
  · rfl
  · rw [(rngs_spec lo hi ts).1 hs k h] at hf; cases hf
theorem shps_spec : ∀ (ts us : List Ord), Ord.shps ts us = true ↔ ts.length = us.length ∧ ∀ k (h : k < ts.length) (h' : k < us.length), Ord.shp ts[k] us[k] = true
  | [], [] => by simp [Ord.shps]
  | [], _ :: _ => by simp [Ord.shps]
  | _ :: _, [] => by simp [Ord.shps]
  | a :: r, b :: q => by
    rw [Ord.shps, Bool.and_eq_true, shps_spec r q]
    constructor
    · rintro ⟨h1, h2, h3⟩
      refine ⟨by simp [h2], fun k h h' => ?_⟩
      cases k with
      | zero => exact h1
      | succ k => exact h3 k (by simpa using h) (by simpa using h')
    · rintro ⟨h1, h2⟩
      exact ⟨h2 0 (by simp) (by simp), by simpa using h1, fun k h h' => h2 (k + 1) (by simpa using h) (by simpa using h')⟩
theorem shps_false (ts us : List Ord) (k : Nat) (h : k < ts.length) (h' : k < us.length) (hf : Ord.shp ts[k] us[k] = false) : Ord.shps ts us = false := by
  cases hs : Ord.shps ts us
  · rfl
  · rw [((shps_spec ts us).1 hs).2 k h h'] at hf; cases hf
theorem shps_len (ts us : List Ord) (h : ts.length ≠ us.length) : Ord.shps ts us = false := by
  cases hs : Ord.shps ts us
  · rfl
  · exact absurd ((shps_spec ts us).1 hs).1 h
theorem eqos_spec : ∀ (ts us : List Ord), Ord.eqos ts us = true ↔ ts.length = us.length ∧ ∀ k (h : k < ts.length) (h' : k < us.length), Ord.eqo ts[k] us[k] = true
  | [], [] => by simp [Ord.eqos]
  | [], _ :: _ => by simp [Ord.eqos]
  | _ :: _, [] => by simp [Ord.eqos]
  | a :: r, b :: q => by
    rw [Ord.eqos, Bool.and_eq_true, eqos_spec r q]
    constructor
    · rintro ⟨h1, h2, h3⟩
      refine ⟨by simp [h2], fun k h h' => ?_⟩
      cases k with
      | zero => exact h1
      | succ k => exact h3 k (by simpa using h) (by simpa using h')
    · rintro ⟨h1, h2⟩
      exact ⟨h2 0 (by simp) (by simp), by simpa using h1, fun k h h' => h2 (k + 1) (by simpa using h) (by simpa using h')⟩
theorem eqos_false (ts us : List Ord) (k : Nat) (h : k < ts.length) (h' : k < us.length) (hf : Ord.eqo ts[k] us[k] = false) : Ord.eqos ts us = false := by
  cases hs : Ord.eqos ts us
  · rfl
  · rw [((eqos_spec ts us).1 hs).2 k h h'] at hf; cases hf
theorem mvs_length (n : Int) : ∀ l : List Ord, (Ord.mvs n l).length = l.length
  | [] => by simp [Ord.mvs]
  | a :: r => by rw [Ord.mvs, List.length_cons, mvs_length n r, List.length_cons]
theorem mvrs_length (n : Int) : ∀ l : List Ord, (Ord.mvrs n l).length = l.length
  | [] => by simp [Ord.mvrs]
  | a :: r => by rw [Ord.mvrs, List.length_cons, mvrs_length n r, List.length_cons]
theorem mvs_take (n : Int) (ts : List Ord) (k : Nat) (h : k < ts.length) : Ord.mvs n (ts.take (k + 1)) = Ord.mvs n (ts.take k) ++ [Ord.mv n ts[k]] := by
  have app : ∀ a b : List Ord, Ord.mvs n (a ++ b) = Ord.mvs n a ++ Ord.mvs n b := by
    intro a b
    induction a with
    | nil => simp [Ord.mvs]
    | cons x r ih => simp [Ord.mvs, ih]
  rw [List.take_succ_eq_append_getElem h, app]; simp [Ord.mvs]
theorem mvrs_take (n : Int) (ts : List Ord) (k : Nat) (h : k < ts.length) : Ord.mvrs n (ts.take (k + 1)) = Ord.mvrs n (ts.take k) ++ [Ord.mvr n ts[k]] := by
  have app : ∀ a b : List Ord, Ord.mvrs n (a ++ b) = Ord.mvrs n a ++ Ord.mvrs n b := by
    intro a b
    induction a with
    | nil => simp [Ord.mvrs]
    | cons x r ih => simp [Ord.mvrs, ih]
  rw [List.take_succ_eq_append_getElem h, app]; simp [Ord.mvrs]
theorem mv_same (n : Int) (m : Nat) : ∀ o : Ord, o.size ≤ m → o.form = true → Ord.eqo (o.mv n) (o.mvr n) = true := by
  induction m with
  | zero => intro o h; have := o.size_pos; omega
  | succ m ih =>
    intro o h hf
    obtain ⟨k, a, ps⟩ := o
    simp only [Ord.size] at h
    have hs : ∀ l : List Ord, Ord.sizes l ≤ m → Ord.forms l = true → Ord.eqos (Ord.mvs n l) (Ord.mvrs n l) = true := by
      intro l
      induction l with
      | nil => intro _ _; rfl
      | cons p r ihr =>
        intro hm hf
        simp only [Ord.sizes] at hm
        rw [Ord.forms, Bool.and_eq_true] at hf
        rw [Ord.mvs, Ord.mvrs, Ord.eqos, ih p (by omega) hf.1, ihr (by omega) hf.2]
        rfl
    rw [Ord.form] at hf
    rw [Ord.mv, Ord.mvr, Ord.eqo]
    by_cases hk : k = 1
    · rw [if_pos hk] at hf
      have h0 : ps = [] := List.length_eq_zero_iff.1 (of_decide_eq_true hf)
      subst h0
      simp [hk, Ord.mvs, Ord.mvrs, Ord.eqos]
    · rw [if_neg hk] at hf
      by_cases hk2 : k = 2 ∨ k = 3
      · rw [if_pos hk2] at hf
        simp only [Bool.and_eq_true, decide_eq_true_eq] at hf
        simp [hk, hf.1.1, hs ps (by omega) hf.2]
      · rw [if_neg hk2] at hf; cases hf
theorem shp_refl (m : Nat) : ∀ o : Ord, o.size ≤ m → Ord.shp o o = true := by
  induction m with
  | zero => intro o h; have := o.size_pos; omega
  | succ m ih =>
    intro o h
    obtain ⟨k, a, ps⟩ := o
    simp only [Ord.size] at h
    rw [Ord.shp, decide_eq_true rfl, Bool.true_and, shps_spec]
    exact ⟨rfl, fun j hj _ => ih _ (by have := Ord.sizes_mem ps ps[j] (List.getElem_mem _); omega)⟩
theorem mods_at (b : Int) : ∀ (ts : List Ord), Ord.mods b ts = true → ∀ k (h : k < ts.length), ts[k].mod b = true
  | [], _, k, h => by simp at h
  | a :: r, hc, k, h => by
    rw [Ord.mods, Bool.and_eq_true] at hc
    cases k with
    | zero => exact hc.1
    | succ k => exact mods_at b r hc.2 k (by simpa using h)
theorem mods_app (b : Int) (x y : List Ord) : Ord.mods b (x ++ y) = (Ord.mods b x && Ord.mods b y) := by
  induction x with
  | nil => simp [Ord.mods]
  | cons a r ih => simp [Ord.mods, ih, Bool.and_assoc]
end Lfc
