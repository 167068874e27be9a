/- The plain model of where an object stands in another one; contracts of kind and passes. -/
import Derived.Test.YtadjpadieljjlaaGreatTmWf
import Derived.Test.YtadjpadieljjlaaGreatOrMem
import Derived.Deep.DeepCutAuto
import Derived.Deep.CutBlock
set_option linter.unusedVariables false
set_option linter.unusedSimpArgs false
namespace Lfc
/-- The kind of a free variable. -/
def kindOf (ks : List Int) (i : Int) : Int := if i < (ks.length : Int) ∧ (ks.getD i.toNat 0 = 1 ∨ ks.getD i.toNat 0 = 2) then ks.getD i.toNat 0 else 0
/-- May a path go on from here. -/
def Raw.pas (ks : List Int) (cr : Int) : Raw → Bool
  | .node k _ p _ => if k = 3 ∨ k = 4 then true else if k = 5 then decide (p < cr) || decide (kindOf ks (p - cr) ≠ 1) else false
/-- What one node asks: the new replacements, if it fits. -/
def stStep (ks : List Int) (cr : Nat) (k : Int) (n n' : List UInt8) (p p' : Int) (d : Int) (tv : List Int) : Option (List Int) :=
  if k = 4 then (if n = n' then some tv else none)
  else if k = 5 then
    (if p - d < 0 then (if p = p' then some tv else none)
     else if p - d < (cr : Int) then (if p' - d < 0 ∨ kindOf ks (p' - d) ≠ 2 ∨ (0 ≤ tv.getD (p - d).toNat 0 ∧ tv.getD (p - d).toNat 0 ≠ p' - d) then none else some (tv.set (p - d).toNat (p' - d)))
     else if p' = p - (cr : Int) then some tv else none)
  else if k = 6 then (if p = p' then some tv else none)
  else some tv
mutual
/-- s, behind cr Lams, becomes t. -/
def Raw.st (ks : List Int) (cr : Nat) : Raw → Raw → Int → List Int → Option (List Int)
  | .node k n p xs, .node k' n' p' xs', d, tv =>
    if k ≠ k' ∨ xs.length ≠ xs'.length then none
    else match stStep ks cr k n n' p p' d tv with
      | none => none
      | some tv' => Raw.sts ks cr xs xs' (if k = 3 then d + 1 else d) tv'
def Raw.sts (ks : List Int) (cr : Nat) : List Raw → List Raw → Int → List Int → Option (List Int)
  | a :: r, a' :: r', d, tv => match Raw.st ks cr a a' d tv with
    | none => none
    | some tv' => Raw.sts ks cr r r' d tv'
  | _, _, _, tv => some tv
end
theorem stStep_len {ks : List Int} {cr : Nat} {k : Int} {n n' : List UInt8} {p p' d : Int} {tv tv' : List Int} (h : stStep ks cr k n n' p p' d tv = some tv') : tv'.length = tv.length := by
  unfold stStep at h
  repeat' split at h
  all_goals first | (cases h; done) | (cases h; rfl) | (cases h; simp)
end Lfc
namespace Go.Proofs.YtadjpadieljjlaaGreat
open Go.RowKit
/-- A slice of numbers in memory. -/
def IntsO (w : World) (A : Option Addr) (zs : List Int) : Prop := zs ≠ [] → ∃ b o, A = some ⟨b, o, none⟩ ∧ b < w.heap.size ∧ ∀ k, k < zs.length → w.cell? ⟨b, o + k, none⟩ = some (.int .i64 (zs.getD k 0))
theorem IntsO.below {w w' : World} {A : Option Addr} {zs : List Int} (h : IntsO w A zs) (hb : Below w.heap.size w w') : IntsO w' A zs := fun hne => by
  obtain ⟨b, o, hA, hlt, hx⟩ := h hne
  exact ⟨b, o, hA, Nat.lt_of_lt_of_le hlt hb.size, fun k hk => (hb.cell (p := ⟨b, o + k, none⟩) hlt).trans (hx k hk)⟩

set_option maxRecDepth 100000 in
set_option maxHeartbeats 2000000 in
theorem oKind_any (ks : List Int) (A : Option Addr) (c : Nat) (i : Int) (w : World) (hi : 0 ≤ i) (hlen : ks.length ≤ 1000000) (h : IntsO w A ks) :
    Calls Tryz.prog 73 #[.slice A ks.length c, .int .i64 i] w fun e w' => e = .returned (.int .i64 (Lfc.kindOf ks i)) ∧ w' = w := by
  obtain ⟨j, rfl⟩ : ∃ j : Nat, i = j := ⟨i.toNat, by omega⟩
  have HK : Hid (Lfc.kindOf ks (j : Int) = if (j : Int) < (ks.length : Int) ∧ (ks.getD j 0 = 1 ∨ ks.getD j 0 = 2) then ks.getD j 0 else 0) := Lib.hid rfl
  rw [HK.out]
  clear HK hi
  by_cases hj : j < ks.length
  · obtain ⟨b, o, rfl, hlt, hx⟩ := h (by intro h0; rw [h0] at hj; simp at hj)
    have hx1 := hx j hj
    clear hx
    have hjl : (j : Int) < (ks.length : Int) := by omega
    have hd : decide ((j : Int) < (ks.length : Int)) = true := by rw [decide_eq_true_eq]; exact hjl
    have HJL := Lib.hid hjl
    obtain ⟨z, hz⟩ : ∃ z, ks.getD j 0 = z := ⟨_, rfl⟩
    rw [hz] at hx1 ⊢
    clear h hz
    by_cases h1 : z = 1
    · subst h1
      rw [if_pos ⟨HJL.out, .inl rfl⟩]
      go_enter Tryz.func73, Tryz.ntmps73
      go_wp2_with fail
      go_ret
      exact ⟨rfl, rfl⟩
    · by_cases h2 : z = 2
      · subst h2
        rw [if_pos ⟨HJL.out, .inr rfl⟩]
        go_enter Tryz.func73, Tryz.ntmps73
        go_wp2_with fail
        go_ret
        exact ⟨rfl, rfl⟩
      · have hz1 : (z == 1) = false := by simpa using h1
        have hz2 : (z == 2) = false := by simpa using h2
        have HN := Lib.hid (And.intro h1 h2)
        rw [if_neg (fun h => h.2.elim h1 h2)]
        clear h1 h2
        go_enter Tryz.func73, Tryz.ntmps73
        go_wp2_with fail
        go_ret
        exact ⟨rfl, rfl⟩
  · have hjl : ¬ (j : Int) < (ks.length : Int) := by omega
    have hd : decide ((j : Int) < (ks.length : Int)) = false := by rw [decide_eq_false_iff_not]; exact hjl
    have HJL := Lib.hid hjl
    clear h
    rw [if_neg (fun h => HJL.out h.1)]
    go_enter Tryz.func73, Tryz.ntmps73
    go_wp2_with fail
    go_ret
    exact ⟨rfl, rfl⟩

set_option maxRecDepth 100000 in
set_option maxHeartbeats 2000000 in
theorem oPasses_any (ks : List Int) (A0 : Option Addr) (c0 cr : Nat) (t : Lfc.Raw) (v : Value) (w : World) (hcr : cr ≤ 1000000) (hlen : ks.length ≤ 1000000) (h : IntsO w A0 ks) (hv : TreeV w t v) (ho : t.obj = true) :
    Calls Tryz.prog 46 #[v, .int .i64 (cr : Int), .slice A0 ks.length c0] w fun e w' => e = .returned (.bool (t.pas ks cr)) ∧ Below w.heap.size w w' := by
  obtain ⟨kd, nm, ps, ts⟩ := t
  obtain ⟨A, c, rfl, hc, hA⟩ := hv.open_
  obtain ⟨w1, hw1⟩ : ∃ w1, w.alloc (.cells #[.int .i64 kd, S nm, .int .i64 ps, .slice A ts.length c] 51) = w1 := ⟨_, rfl⟩
  have b1 : Below w.heap.size w w1 := by rw [← hw1]; exact (Below.refl _ _).alloc (Nat.le_refl _) _
  have q1 : w1.heap[w.heap.size]? = some (.cells #[.int .i64 kd, S nm, .int .i64 ps, .slice A ts.length c] 51 (0, 0)) := by rw [← hw1]; exact heap_alloc_new _ _
  have y0 := Lib.cell_of_heap q1 0
  have y2 := Lib.cell_of_heap q1 2
  simp at y0 y2
  have B1 := Lib.hid b1
  have H1 := Lib.hid (h.below b1)
  have HP : Hid ((Lfc.Raw.node kd nm ps ts).pas ks cr = if kd = 3 ∨ kd = 4 then true else if kd = 5 then decide (ps < (cr : Int)) || decide (Lfc.kindOf ks (ps - cr) ≠ 1) else false) := Lib.hid rfl
  rw [HP.out]
  by_cases h3 : kd = 3
  · subst h3
    clear hA hv h ho b1 q1 HP
    go_enter Tryz.func46, Tryz.ntmps46
    go_wp2_with fail
    go_ret
    exact ⟨rfl, B1.out⟩
  · by_cases h4 : kd = 4
    · subst h4
      clear hA hv h ho b1 q1 HP
      go_enter Tryz.func46, Tryz.ntmps46
      go_wp2_with fail
      go_ret
      exact ⟨rfl, B1.out⟩
    · have hk3 : (kd == 3) = false := by simpa using h3
      have hk4 : (kd == 4) = false := by simpa using h4
      rw [if_neg (fun h => h.elim h3 h4)]
      by_cases h5 : kd = 5
      · subst h5
        have hpb : 0 ≤ ps ∧ ps ≤ 1048576 := by
          rw [Lfc.Raw.obj] at ho
          simp at ho
          omega
        rw [if_pos rfl]
        by_cases hpc : ps < (cr : Int)
        · have hd : decide (ps < (cr : Int)) = true := by rw [decide_eq_true_eq]; exact hpc
          rw [hd]
          have HT : Hid ((true || decide (Lfc.kindOf ks (ps - cr) ≠ 1)) = true) := Lib.hid rfl
          rw [HT.out]
          clear hA hv h ho b1 q1 HP h3 h4
          go_enter Tryz.func46, Tryz.ntmps46
          go_wp2_with fail
          go_ret
          exact ⟨rfl, B1.out⟩
        · have hd : decide (ps < (cr : Int)) = false := by rw [decide_eq_false_iff_not]; exact hpc
          have hwr : IntKind.i64.wrap (ps - (cr : Int)) = ps - (cr : Int) := IntWalk.i64_in _ (by omega)
          have CK := Lib.hid (oKind_any ks A0 c0 (ps - cr) w1 (by omega) hlen H1.out)
          rw [hd, Bool.false_or]
          obtain ⟨z, hz⟩ : ∃ z, Lfc.kindOf ks (ps - cr) = z := ⟨_, rfl⟩
          rw [hz] at CK ⊢
          clear hA hv h ho b1 q1 HP h3 h4 hz
          have HW1 := Lib.hid hw1
          clear hw1
          go_enter Tryz.func46, Tryz.ntmps46
          go_upto_region 1 with fail
          rw [HW1.out]
          go_wp2_with fail
          refine CK.out.mono ?_
          rintro e w2 ⟨rfl, rfl⟩
          go_wp2_with fail
          go_ret
          exact ⟨ret_bool (by rw [bne, Bool.eq_iff_iff]; simp), B1.out⟩
      · have hk5 : (kd == 5) = false := by simpa using h5
        rw [if_neg h5]
        clear hA hv h ho b1 q1 HP h3 h4 h5
        go_enter Tryz.func46, Tryz.ntmps46
        go_wp2_with fail
        go_ret
        exact ⟨rfl, B1.out⟩
end Go.Proofs.YtadjpadieljjlaaGreat
