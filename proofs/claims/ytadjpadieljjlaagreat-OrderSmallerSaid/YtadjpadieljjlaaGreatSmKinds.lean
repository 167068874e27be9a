/- The contract of kinds: some list of numbers. -/
import Derived.Test.YtadjpadieljjlaaGreatSmRow
import Derived.Test.YtadjpadieljjlaaGreatOrLink
import Derived.Maps.AppendAt
set_option linter.unusedVariables false
set_option linter.unusedSimpArgs false
namespace Go.Proofs.YtadjpadieljjlaaGreat
open Go.RowKit Go.Maps
attribute [local go_sem ↓] Go.wp_at_zero Go.wp_at_succ
/-- A list of numbers that grows; the tape lies in block T. -/
structure KdI (w : World) (T : Nat) (ks : List Int) (v : Value) (wr : World) : Prop where
  tape : TapeI T wr
  oth : Oth T w wr
  own : wr.ownsRow w.heap.size 3 1 v ks.length (ints ks)
theorem KdI.ne {w wr : World} {T : Nat} {ks : List Int} {v : Value} (h : KdI w T ks v wr) (hT : T < w.heap.size) : v.ownBlock = some T → False := fun e => by have := (h.own.lt _ e).1; omega
theorem KdI.moved {w wr w2 : World} {T : Nat} {ks : List Int} {v : Value} (h : KdI w T ks v wr) (hT : T < w.heap.size) (ho : Oth T wr w2) (t2 : TapeI T w2) : KdI w T ks v w2 := ⟨t2, h.oth.trans ho, h.own.kept ho (Or.inr (h.ne hT))⟩
theorem KdI.below {w wr w2 : World} {T : Nat} {ks : List Int} {v : Value} (h : KdI w T ks v wr) (hT : T < w.heap.size) (hb : Below wr.heap.size wr w2) : KdI w T ks v w2 := h.moved hT (Oth.of_below hb) (h.tape.below hb)
theorem KdI.step {w wr w9 : World} {T : Nat} {ks : List Int} {v v' : Value} {x : Int} {o : Obj} (h : KdI w T ks v wr) (hT : T < w.heap.size) (hg : (wr.alloc o).grownBy w9 v.ownBlock) (hown : w9.ownsRow w.heap.size 3 1 v' (ks.length + 1) (ints ks ++ [.int .i64 x])) : KdI w T (ks ++ [x]) v' w9 := by
  have hs := h.oth.size
  have key : ∀ b, b < w.heap.size → w9.heap[b]? = (wr.alloc o).heap[b]? := fun b hb => hg.block b (by simp; omega) (fun e => by have := (h.own.lt b e.symm).1; omega)
  have ht := h.tape.below ((Below.refl wr.heap.size wr).alloc (Nat.le_refl _) o)
  have e1 : ints (ks ++ [x]) = ints ks ++ [.int .i64 x] := by simp [ints]
  refine ⟨ht.like (fun b hb => key b (by omega)), ?_, by rw [e1, List.length_append]; exact hown⟩
  exact (h.oth.of_new (((Below.refl wr.heap.size wr).alloc (Nat.le_refl _) o).mono hs)).of_new ⟨hg.os, hg.tape, hg.output, hg.size, key⟩
def kdTab : List Int := [0, 2, 5]
theorem kdTab_cell (w : World) (r : Nat) (hr : r < 3) : (w.alloc (.cells #[.int .i64 0, .int .i64 2, .int .i64 5] 3)).cell? ⟨w.heap.size, r, none⟩ = some (.int .i64 (kdTab.getD r 0)) := by
  have q := heap_alloc_new w (.cells #[.int .i64 0, .int .i64 2, .int .i64 5] 3)
  match r, hr with
  | 0, _ => exact Lib.cell_of_heap q 0
  | 1, _ => exact Lib.cell_of_heap q 1
  | 2, _ => exact Lib.cell_of_heap q 2
/-- What kinds answers. -/
def KindsAns (w : World) (T : Nat) (e : Ending) (w' : World) : Prop := ∃ ks A c, e = .returned (.slice A ks.length c) ∧ ks.length ≤ 5 ∧ KdI w T ks (.slice A ks.length c) w'
theorem KdI.ints {w wr : World} {T : Nat} {ks : List Int} {A : Option Addr} {c : Nat} (h : KdI w T ks (.slice A ks.length c) wr) : IntsP (fun b => w.heap.size ≤ b) wr A ks := intsP_own h.own

set_option maxRecDepth 100000 in
set_option maxHeartbeats 8000000 in
theorem mKinds_any (T : Nat) (w : World) (hT : TapeI T w) :
    Calls Tryz.prog 17 #[.pointer (some ⟨T, 0, none⟩)] w (KindsAns w T) := by
  have hTl := hT.lt
  obtain ⟨i0, hi, hz0, hz1, hz2⟩ := info_parts intInfo
  have I0 : Hid (KdI w T [] (.slice none 0 0) w) := Lib.hid ⟨hT, Oth.refl _ _, ⟨by simp [ints], .inl ⟨rfl, rfl⟩⟩⟩
  clear hT
  go_enter Tryz.func17, Tryz.ntmps17
  go_wp2_with fail
  refine (tapeI_next T 3 w (by omega) (by omega) I0.out.tape).mono ?_
  rintro e w1 ⟨⟨N, hN, rfl⟩, T1, o1⟩
  obtain ⟨ks0, A0, c0, hk0, I1⟩ : ∃ (ks0 : List Int) (A0 : Option Addr) (c0 : Nat), (ks0 = [] ∧ A0 = none ∧ c0 = 0) ∧ Hid (KdI w T ks0 (.slice A0 ks0.length c0) w1) := ⟨[], none, 0, ⟨rfl, rfl, rfl⟩, Lib.hid (I0.out.moved hTl o1 T1)⟩
  obtain ⟨rfl, rfl, rfl⟩ := hk0
  clear I0 T1 o1
  go_wp2_with fail
  go_loopw [3, 4] (fun v i wr => ∃ (j : Nat) (ks : List Int) (A : Option Addr) (c : Nat), i = .int .i64 (j : Int) ∧ ks.length + j ≤ 2 ∧ v = .slice A ks.length c ∧ Hid (KdI w T ks (.slice A ks.length c) wr)) (fun _ i _ => (intOf i).toNat)
  case atStart => exact ⟨N, [], none, 0, rfl, by simp; omega, rfl, I1⟩
  case round =>
    obtain ⟨j, ks, A, c, rfl, hkj, rfl, HI⟩ := hrel
    clear I1
    by_cases hj : j = 0
    · subst hj
      go_wp2_with fail
      refine (tapeI_next T 3 _ (by omega) (by omega) HI.out.tape).mono ?_
      rintro e w1 ⟨⟨N, hN, rfl⟩, T1, o1⟩
      obtain ⟨ks0, A0, c0, hk0, I1⟩ : ∃ ks0 A0 c0, (ks0.length ≤ 2 ∧ ks0 = ks ∧ A0 = A ∧ c0 = c) ∧ Hid (KdI w T ks0 (.slice A0 ks0.length c0) w1) := ⟨ks, A, c, ⟨by omega, rfl, rfl, rfl⟩, Lib.hid (HI.out.moved hTl o1 T1)⟩
      obtain ⟨hk0, rfl, rfl, rfl⟩ := hk0
      clear HI T1 o1 hkj
      go_wp2_with fail
      go_loopw [3, 5] (fun v i wr => ∃ (j : Nat) (ks : List Int) (A : Option Addr) (c : Nat), i = .int .i64 (j : Int) ∧ ks.length + j ≤ 4 ∧ v = .slice A ks.length c ∧ Hid (KdI w T ks (.slice A ks.length c) wr)) (fun _ i _ => (intOf i).toNat)
      case atStart => exact ⟨N, _, _, _, rfl, by omega, rfl, I1⟩
      case round =>
        obtain ⟨j, ks, A, c, rfl, hkj, rfl, HI⟩ := hrel
        clear I1
        by_cases hj : j = 0
        · subst hj
          go_wp2_with fail
          refine (tapeI_next T 2 _ (by omega) (by omega) HI.out.tape).mono ?_
          rintro e w1 ⟨⟨N, hN, rfl⟩, T1, o1⟩
          obtain ⟨ks0, A0, c0, hk0, I1⟩ : ∃ ks0 A0 c0, (ks0.length ≤ 4 ∧ ks0 = ks ∧ A0 = A ∧ c0 = c) ∧ Hid (KdI w T ks0 (.slice A0 ks0.length c0) w1) := ⟨ks, A, c, ⟨by omega, rfl, rfl, rfl⟩, Lib.hid (HI.out.moved hTl o1 T1)⟩
          obtain ⟨hk0, rfl, rfl, rfl⟩ := hk0
          clear HI T1 o1 hkj
          go_wp2_with fail
          go_loopw [3, 6] (fun v i wr => ∃ (j : Nat) (ks : List Int) (A : Option Addr) (c : Nat), i = .int .i64 (j : Int) ∧ ks.length + j ≤ 5 ∧ v = .slice A ks.length c ∧ Hid (KdI w T ks (.slice A ks.length c) wr)) (fun _ i _ => (intOf i).toNat)
          case atStart => exact ⟨N, _, _, _, rfl, by omega, rfl, I1⟩
          case round =>
            obtain ⟨j, ks, A, c, rfl, hkj, rfl, HI⟩ := hrel
            clear I1
            by_cases hj : j = 0
            · subst hj
              go_wp2_with fail
              go_ret
              exact ⟨ks, A, c, rfl, by omega, HI.out⟩
            · have hj1 : decide ((j : Int) > 0) = true := by rw [decide_eq_true_eq]; omega
              have hjw : IntKind.i64.wrap ((j : Int) - 1) = ((j - 1 : Nat) : Int) := by rw [IntWalk.i64_in _ (by omega)]; omega
              obtain ⟨lk, hlk⟩ : ∃ lk, ks.length = lk := ⟨_, rfl⟩
              have hlm : lk + 1 ≤ maxLen := by unfold maxLen; omega
              have hl8 : (lk + 1) * 8 ≤ 140737488355328 := by omega
              have hkj' := Lib.hid hkj
              have HLK := Lib.hid hlk
              obtain ⟨w2, hw2⟩ : ∃ w2, wr.alloc (.cells #[.int .i64 0, .int .i64 2, .int .i64 5] 3) = w2 := ⟨_, rfl⟩
              have b2 : Below wr.heap.size wr w2 := by rw [← hw2]; exact (Below.refl _ _).alloc (Nat.le_refl _) _
              have TAB : Hid (∀ r, r < 3 → w2.cell? ⟨wr.heap.size, r, none⟩ = some (.int .i64 (kdTab.getD r 0))) := Lib.hid (fun r hr => by rw [← hw2]; exact kdTab_cell wr r hr)
              have hs2 : wr.heap.size < w2.heap.size := by rw [← hw2]; simp
              have hsr := HI.out.oth.size
              have I2 := Lib.hid (HI.out.below hTl b2)
              rw [hlk]
              clear hlk hkj b2
              go_wp2_with fail
              refine (tapeI_next T 3 w2 (by omega) (by omega) I2.out.tape).mono ?_
              rintro e w3 ⟨⟨r, hr, rfl⟩, T3, o3⟩
              have I3 := Lib.hid (I2.out.moved hTl o3 T3)
              have yt := (o3.cell (p := ⟨wr.heap.size, r, none⟩) (by simp only; omega) (by simp only; omega)).trans (TAB.out r hr)
              generalize kdTab.getD r 0 = x at *
              have hr1 : (0 : Int) ≤ (r : Int) := by omega
              have hr2 : (r : Int) < 3 := by omega
              have HOW : Hid (w3.ownsRow w.heap.size 3 1 (.slice A lk c) lk (ints ks)) := Lib.hid (by rw [← HLK.out]; exact I3.out.own)
              have hsz := I3.out.oth.size
              clear T3 o3 hw2
              go_wp2_with (at_builtin; refine wpList_append_own_at _ rfl _ _ 22 rfl w.heap.size 3 i0 (.int .i64 0) 1 8 Tryz.underlying22 hi hz0 hz1 hz2 rfl (by decide) _ _ _ rfl (HOW.out.alloc _) ⟨w3.heap.size, 0, none⟩ 1 1 [.int .i64 x] rfl rfl (fun jj v hj => ocells_new w3 _ rfl [.int .i64 x] 3 jj v hj) (by intro v hv; simp at hv; subst hv; rfl) hlm hl8 (oalloc_le hsz) ?_)
              intro v9 w9 hown9 hg9 _ _
              obtain ⟨A9, c9, rfl⟩ := oform hown9
              have HN : Hid (KdI w T (ks ++ [x]) (.slice A9 (ks ++ [x]).length c9) w9) := Lib.hid (by
                have el : (ks ++ [(x : Int)]).length = lk + 1 := by rw [List.length_append, HLK.out]; rfl
                rw [el]
                exact I3.out.step hTl (by rw [HLK.out]; exact hg9) (by rw [HLK.out]; exact hown9))
              have HL9 : Hid ((ks ++ [(x : Int)]).length = lk + 1 ∧ (ks ++ [(x : Int)]).length + (j - 1) ≤ 5) := Lib.hid (by
                have el : (ks ++ [(x : Int)]).length = lk + 1 := by rw [List.length_append, HLK.out]; rfl
                have h1 := hkj'.out
                have h2 := HLK.out
                omega)
              clear hown9 hg9
              go_wp2_with fail
              go_roundw
              case rel => exact ⟨j - 1, ks ++ [x], A9, c9, rfl, HL9.out.2, by rw [HL9.out.1], HN⟩
              case measure => simp [intOf]; omega
        · have hj1 : decide ((j : Int) > 0) = true := by rw [decide_eq_true_eq]; omega
          have hjw : IntKind.i64.wrap ((j : Int) - 1) = ((j - 1 : Nat) : Int) := by rw [IntWalk.i64_in _ (by omega)]; omega
          obtain ⟨lk, hlk⟩ : ∃ lk, ks.length = lk := ⟨_, rfl⟩
          have hlm : lk + 1 ≤ maxLen := by unfold maxLen; omega
          have hl8 : (lk + 1) * 8 ≤ 140737488355328 := by omega
          have hkj' := Lib.hid hkj
          have HLK := Lib.hid hlk
          have HOW : Hid (wr.ownsRow w.heap.size 3 1 (.slice A lk c) lk (ints ks)) := Lib.hid (by rw [← hlk]; exact HI.out.own)
          have hsz := HI.out.oth.size
          rw [hlk]
          clear hlk hkj
          go_wp2_with (at_builtin; refine wpList_append_own_at _ rfl _ _ 22 rfl w.heap.size 3 i0 (.int .i64 0) 1 8 Tryz.underlying22 hi hz0 hz1 hz2 rfl (by decide) _ _ _ rfl (HOW.out.alloc _) ⟨wr.heap.size, 0, none⟩ 1 1 [.int .i64 1] rfl rfl (fun jj v hj => ocells_new wr _ rfl [.int .i64 1] 3 jj v hj) (by intro v hv; simp at hv; subst hv; rfl) hlm hl8 (oalloc_le hsz) ?_)
          intro v9 w9 hown9 hg9 _ _
          obtain ⟨A9, c9, rfl⟩ := oform hown9
          have HN : Hid (KdI w T (ks ++ [1]) (.slice A9 (ks ++ [1]).length c9) w9) := Lib.hid (by
            have el : (ks ++ [(1 : Int)]).length = lk + 1 := by rw [List.length_append, HLK.out]; rfl
            rw [el]
            exact HI.out.step hTl (by rw [HLK.out]; exact hg9) (by rw [HLK.out]; exact hown9))
          have HL9 : Hid ((ks ++ [(1 : Int)]).length = lk + 1 ∧ (ks ++ [(1 : Int)]).length + (j - 1) ≤ 4) := Lib.hid (by
            have el : (ks ++ [(1 : Int)]).length = lk + 1 := by rw [List.length_append, HLK.out]; rfl
            have h1 := hkj'.out
            have h2 := HLK.out
            omega)
          clear hown9 hg9
          go_wp2_with fail
          go_roundw
          case rel => exact ⟨j - 1, ks ++ [1], A9, c9, rfl, HL9.out.2, by rw [HL9.out.1], HN⟩
          case measure => simp [intOf]; omega
    · have hj1 : decide ((j : Int) > 0) = true := by rw [decide_eq_true_eq]; omega
      have hjw : IntKind.i64.wrap ((j : Int) - 1) = ((j - 1 : Nat) : Int) := by rw [IntWalk.i64_in _ (by omega)]; omega
      obtain ⟨lk, hlk⟩ : ∃ lk, ks.length = lk := ⟨_, rfl⟩
      have hlm : lk + 1 ≤ maxLen := by unfold maxLen; omega
      have hl8 : (lk + 1) * 8 ≤ 140737488355328 := by omega
      have hkj' := Lib.hid hkj
      have HLK := Lib.hid hlk
      have HOW : Hid (wr.ownsRow w.heap.size 3 1 (.slice A lk c) lk (ints ks)) := Lib.hid (by rw [← hlk]; exact HI.out.own)
      have hsz := HI.out.oth.size
      rw [hlk]
      clear hlk hkj
      go_wp2_with (at_builtin; refine wpList_append_own_at _ rfl _ _ 22 rfl w.heap.size 3 i0 (.int .i64 0) 1 8 Tryz.underlying22 hi hz0 hz1 hz2 rfl (by decide) _ _ _ rfl (HOW.out.alloc _) ⟨wr.heap.size, 0, none⟩ 1 1 [.int .i64 2] rfl rfl (fun jj v hj => ocells_new wr _ rfl [.int .i64 2] 3 jj v hj) (by intro v hv; simp at hv; subst hv; rfl) hlm hl8 (oalloc_le hsz) ?_)
      intro v9 w9 hown9 hg9 _ _
      obtain ⟨A9, c9, rfl⟩ := oform hown9
      have HN : Hid (KdI w T (ks ++ [2]) (.slice A9 (ks ++ [2]).length c9) w9) := Lib.hid (by
        have el : (ks ++ [(2 : Int)]).length = lk + 1 := by rw [List.length_append, HLK.out]; rfl
        rw [el]
        exact HI.out.step hTl (by rw [HLK.out]; exact hg9) (by rw [HLK.out]; exact hown9))
      have HL9 : Hid ((ks ++ [(2 : Int)]).length = lk + 1 ∧ (ks ++ [(2 : Int)]).length + (j - 1) ≤ 2) := Lib.hid (by
        have el : (ks ++ [(2 : Int)]).length = lk + 1 := by rw [List.length_append, HLK.out]; rfl
        have h1 := hkj'.out
        have h2 := HLK.out
        omega)
      clear hown9 hg9
      go_wp2_with fail
      go_roundw
      case rel => exact ⟨j - 1, ks ++ [2], A9, c9, rfl, HL9.out.2, by rw [HL9.out.1], HN⟩
      case measure => simp [intOf]; omega
end Go.Proofs.YtadjpadieljjlaaGreat
