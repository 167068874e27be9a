/- The contract of slices.Concat for terms. -/
import Derived.Test.YtadjpadieljjlaaOrGrow
set_option linter.unusedVariables false
set_option linter.unusedSimpArgs false
namespace Go.Proofs.Ytadjpadieljjlaa
open Go.RowKit Go.Maps
/-- A slice among several. -/
structure Part where
  A : Option Addr
  n : Nat
  c : Nat
  xs : List Value
def partsN : List Part → Nat
  | [] => 0
  | p :: r => p.n + partsN r
def partsX : List Part → List Value
  | [] => []
  | p :: r => p.xs ++ partsX r
theorem partsN_append : ∀ (l r : List Part), partsN (l ++ r) = partsN l + partsN r
  | [], r => by simp [partsN]
  | p :: l, r => by rw [List.cons_append, partsN, partsN, partsN_append l r]; omega
theorem partsX_append : ∀ (l r : List Part), partsX (l ++ r) = partsX l ++ partsX r
  | [], r => by simp [partsX]
  | p :: l, r => by rw [List.cons_append, partsX, partsX, partsX_append l r, List.append_assoc]
theorem partsN_succ {l : List Part} {k : Nat} (h : k < l.length) : partsN (l.take (k + 1)) = partsN (l.take k) + l[k].n := by
  rw [List.take_succ_eq_append_getElem h, partsN_append]; simp [partsN]
theorem partsX_succ {l : List Part} {k : Nat} (h : k < l.length) : partsX (l.take (k + 1)) = partsX (l.take k) ++ l[k].xs := by
  rw [List.take_succ_eq_append_getElem h, partsX_append]; simp [partsX]
theorem partsN_take (l : List Part) (k : Nat) : partsN (l.take k) ≤ partsN l := by
  have := partsN_append (l.take k) (l.drop k)
  rw [List.take_append_drop] at this
  omega
/-- The slices lie there, one behind the other. -/
def PartsO (w : World) (g o : Nat) (Ls : List Part) : Prop := ∀ k (h : k < Ls.length), w.cell? ⟨g, o + k, none⟩ = some (.slice Ls[k].A Ls[k].n Ls[k].c) ∧ Ls[k].xs.length = Ls[k].n * 4 ∧ (Ls[k].A = none → Ls[k].n = 0 ∧ Ls[k].c = 0) ∧ (∀ a, Ls[k].A = some a → ∀ j u, Ls[k].xs[j]? = some u → w.cell? (a.add j) = some u) ∧ (∀ u ∈ Ls[k].xs, u.oneCell' = true)
theorem PartsO.below {w w' : World} {g o : Nat} {Ls : List Part} (h : PartsO w g o Ls) (hb : Below w.heap.size w w') : PartsO w' g o Ls := fun k hk => by
  obtain ⟨h1, h2, h3, h4, h5⟩ := h k hk
  exact ⟨(hb.cell (World.block_lt_of_cell? w _ h1)).trans h1, h2, h3, fun a ha j u hj => (hb.cell (World.block_lt_of_cell? w _ (h4 a ha j u hj))).trans (h4 a ha j u hj), h5⟩

set_option maxRecDepth 100000 in
set_option maxHeartbeats 4000000 in
theorem concatT_any (g o c : Nat) (Ls : List Part) (w : World) (hL : Ls.length ≤ 1000) (hN : partsN Ls ≤ 10000000) (hP : PartsO w g o Ls) :
    Calls Try.prog 45 #[.slice (some ⟨g, o, none⟩) Ls.length c] w fun e w' => (∃ v, e = .returned v ∧ w'.ownsRow w.heap.size 34 4 v (partsN Ls) (partsX Ls)) ∧ Below w.heap.size w w' := by
  obtain ⟨i0, hi, hz0, hz1, hz2⟩ := info_parts termInfo
  have HP := Lib.hid hP
  clear hP
  obtain ⟨N, hNN⟩ : ∃ N, partsN Ls = N := ⟨_, rfl⟩
  have HNN := Lib.hid hNN
  have hN2 : N ≤ 10000000 := by omega
  clear hN hNN
  have CG := Lib.hid (growT_any N w hN2)
  go_enter Try.func45, Try.ntmps45
  go_wp2_with fail
  go_loopw [3, 11] (fun s i wr => ∃ k : Nat, k ≤ Ls.length ∧ s = .int .i64 (partsN (Ls.take k) : Nat) ∧ i = .int .i64 (k : Int) ∧ wr = w) (fun _ i _ => Ls.length - (intOf i).toNat)
  case atStart => exact ⟨0, by omega, by simp [partsN], by simp, by simp⟩
  case round =>
    obtain ⟨k, hk, rfl, rfl, hwx⟩ := hrel
    subst hwx
    by_cases hlt : k < Ls.length
    · obtain ⟨h1, h2, h3, h4, h5⟩ := HP.out k hlt
      have HS := Lib.hid (partsN_succ hlt)
      have hT : partsN (Ls.take (k + 1)) ≤ N := by rw [← HNN.out]; exact partsN_take _ _
      have hsum : partsN (Ls.take k) + Ls[k].n ≤ N := by rw [← HS.out]; exact hT
      have hi0 : (0 : Int) ≤ (k : Int) := Int.natCast_nonneg _
      have hi1 : (k : Int) < (Ls.length : Int) := by omega
      have hwr : IntKind.i64.wrap ((partsN (Ls.take k) : Int) + (Ls[k].n : Int)) = (partsN (Ls.take k) : Int) + (Ls[k].n : Int) := IntWalk.i64_in _ (by omega)
      have hd : decide ((partsN (Ls.take k) : Int) + (Ls[k].n : Int) < 0) = false := by rw [decide_eq_false_iff_not]; omega
      have hd2 : ¬ ((partsN (Ls.take k) : Int) + (Ls[k].n : Int) < 0) := by omega
      clear h2 h3 h4 h5 hT
      go_wp2_with fail
      go_roundw
      case rel => exact ⟨k + 1, by omega, by rw [HS.out]; go_num, by go_num, by simp⟩
      case measure => simp [intOf]; omega
    · obtain rfl : k = Ls.length := by omega
      have hTE : partsN (Ls.take Ls.length) = N := by rw [List.take_length]; exact HNN.out
      rw [hTE]
      clear hTE
      go_wp2_with fail
      refine CG.out.mono ?_
      rintro e w2 ⟨⟨v, rfl, hown⟩, hb⟩
      have HW := Lib.hid (show w2.ownsRow wr.heap.size 34 4 v (partsN (Ls.take 0)) (partsX (Ls.take 0)) ∧ Below wr.heap.size wr w2 from ⟨hown, hb⟩)
      clear hown hb CG
      obtain ⟨wq, hwq⟩ : ∃ wq, wq = wr := ⟨_, rfl⟩
      subst hwq
      go_wp2_with fail
      go_loopw [6, 27] (fun v i wr => ∃ k : Nat, k ≤ Ls.length ∧ i = .int .i64 (k : Int) ∧ Hid (wr.ownsRow wq.heap.size 34 4 v (partsN (Ls.take k)) (partsX (Ls.take k)) ∧ Below wq.heap.size wq wr)) (fun _ i _ => Ls.length - (intOf i).toNat)
      case atStart => exact ⟨0, by omega, rfl, HW⟩
      case round =>
        obtain ⟨k, hk, rfl, HI⟩ := hrel
        obtain ⟨hown, hb⟩ := HI.out
        by_cases hlt : k < Ls.length
        · obtain ⟨h1, h2, h3, h4, h5⟩ := (HP.out.below hb) k hlt
          have HS := Lib.hid (partsN_succ hlt)
          have HX := Lib.hid (partsX_succ hlt)
          have hT : partsN (Ls.take (k + 1)) ≤ N := by rw [← HNN.out]; exact partsN_take _ _
          have hsum : partsN (Ls.take k) + Ls[k].n ≤ N := by rw [← HS.out]; exact hT
          have hi0 : (0 : Int) ≤ (k : Int) := Int.natCast_nonneg _
          have hi1 : (k : Int) < (Ls.length : Int) := by omega
          generalize Ls[k] = P at *
          obtain ⟨PA, Pn, Pc, Px⟩ := P
          simp only at h1 h2 h3 h4 h5 hsum HS HX
          have HO := Lib.hid hown
          have HB := Lib.hid hb
          clear hown hb HI HW
          cases PA with
          | none =>
            obtain ⟨rfl, rfl⟩ := h3 rfl
            have hx0 : Px = [] := List.length_eq_zero_iff.1 (by omega)
            clear h2 h3 h4 h5
            go_wp2_with (at_builtin; refine wpList_append_own_none rfl _ _ 32 rfl wq.heap.size 34 i0 4 Try.underlying32 hi _ _ _ rfl HO.out rfl ?_)
            go_roundw
            case rel => exact ⟨k + 1, by omega, by go_num, Lib.hid ⟨by rw [HS.out, HX.out, hx0, Nat.add_zero, List.append_nil]; exact HO.out, HB.out⟩⟩
            case measure => simp [intOf]; omega
          | some a =>
            have H4 := Lib.hid (h4 a rfl)
            have H5 := Lib.hid h5
            have H2 := Lib.hid h2
            clear h2 h3 h4 h5
            go_wp2_with (at_builtin; refine wpList_append_own_at _ rfl _ _ 32 rfl wq.heap.size 34 i0 _ 4 56 Try.underlying32 hi hz0 hz1 hz2 rfl (by decide) _ _ _ rfl HO.out a Pn Pc Px rfl H2.out H4.out H5.out (by unfold maxLen; omega) (by omega) HB.out.size ?_)
            intro v9 w9 hown9 hg9 _ _
            have HZ : Hid (w9.ownsRow wq.heap.size 34 4 v9 (partsN (Ls.take (k + 1))) (partsX (Ls.take (k + 1))) ∧ Below wq.heap.size wq w9) := Lib.hid ⟨by rw [HS.out, HX.out]; exact hown9, Below.grown HB.out hg9 HB.out.size (fun b e => (HO.out.lt b e).1)⟩
            clear hown9 hg9
            go_wp2_with fail
            go_roundw
            case rel => exact ⟨k + 1, by omega, by go_num, HZ⟩
            case measure => simp [intOf]; omega
        · obtain rfl : k = Ls.length := by omega
          rw [List.take_length] at hown
          have HZ := Lib.hid (And.intro hown hb)
          clear hown hb HI
          go_wp2_with fail
          go_ret
          exact ⟨⟨_, rfl, HZ.out.1⟩, HZ.out.2⟩
end Go.Proofs.Ytadjpadieljjlaa
