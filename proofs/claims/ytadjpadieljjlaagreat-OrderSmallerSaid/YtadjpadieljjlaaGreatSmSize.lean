/- Contracts of Size and Depth of the reference 05. -/
import Derived.Test.YtadjpadieljjlaaGreatRawMem
set_option linter.unusedVariables false
set_option linter.unusedSimpArgs false
namespace Go.Proofs.YtadjpadieljjlaaGreat
open Go.RowKit

theorem s_sizes_take (ts : List Lfc.Raw) (k : Nat) (h : k < ts.length) : Lfc.Raw.sizes (ts.take (k + 1)) = Lfc.Raw.sizes (ts.take k) + ts[k].size := by
  rw [List.take_succ_eq_append_getElem h, Lfc.Raw.sizes_app]; simp [Lfc.Raw.sizes]
theorem s_depths_take (ts : List Lfc.Raw) (k : Nat) (h : k < ts.length) : Lfc.Raw.depths (ts.take (k + 1)) = max (Lfc.Raw.depths (ts.take k)) ts[k].depth := by
  rw [List.take_succ_eq_append_getElem h, Lfc.Raw.depths_app]; simp [Lfc.Raw.depths]
theorem s_sizes_take_le (ts : List Lfc.Raw) (k : Nat) : Lfc.Raw.sizes (ts.take k) ≤ Lfc.Raw.sizes ts := by
  have : Lfc.Raw.sizes ts = Lfc.Raw.sizes (ts.take k) + Lfc.Raw.sizes (ts.drop k) := by rw [← Lfc.Raw.sizes_app, List.take_append_drop]
  omega

theorem s_depths_le (l : List Lfc.Raw) : Lfc.Raw.depths l ≤ Lfc.Raw.sizes l := by
  induction l with
  | nil => simp [Lfc.Raw.depths, Lfc.Raw.sizes]
  | cons a r ih => have := Lfc.Raw.depth_le_size _ a (Nat.le_refl _); simp only [Lfc.Raw.depths, Lfc.Raw.sizes]; omega

set_option maxRecDepth 100000 in
set_option maxHeartbeats 1000000 in
theorem sSize_any (m : Nat) : ∀ (t : Lfc.Raw) (v : Value) (w : World), t.size ≤ m → t.size ≤ 1000000000 → TreeV w t v →
    Calls Tryz.prog 21 #[v] w fun e w' => e = .returned (.int .i64 (t.size : Int)) ∧ Below w.heap.size w w' := by
  induction m with
  | zero => intro t v w h _ _; have := t.size_pos; omega
  | succ m ih =>
    intro t v w hm hmax hv
    obtain ⟨kd, nm, ps, ts⟩ := t
    obtain ⟨A, c, rfl, hc, hA⟩ := hv.open_
    simp only [Lfc.Raw.size] at hm hmax
    simp only [Lfc.Raw.size]
    have hlen := Lfc.Raw.sizes_len ts
    have IH := Lib.hid ih
    obtain ⟨w0, hw0⟩ : ∃ w0, w.alloc (.cells #[.int .i64 kd, S nm, .int .i64 ps, .slice A ts.length c] 51) = w0 := ⟨_, rfl⟩
    have b0 : Below w.heap.size w w0 := by rw [← hw0]; exact (Below.refl _ _).alloc (Nat.le_refl _) _
    have s0 : w.heap.size < w0.heap.size := by rw [← hw0]; simp
    have hbox : w0.cell? ⟨w.heap.size, 3, none⟩ = some (.slice A ts.length c) := by rw [← hw0]; simp [World.cell?_alloc_new]
    have HA := Lib.hid (hA.below b0)
    have HB := Lib.hid hbox
    clear ih hA hv hbox
    go_enter Tryz.func21, Tryz.ntmps21
    go_wp2_with fail
    generalize hG : w.heap.size = G at *
    go_loopw [3, 4] (fun n i wr => ∃ k : Nat, k ≤ ts.length ∧ i = .int .i64 k ∧ n = .int .i64 ((Lfc.Raw.sizes (ts.take k) + 1 : Nat) : Int) ∧ Below w0.heap.size w0 wr) (fun _ i _ => ts.length - (intOf i).toNat)
    case atStart => exact ⟨0, by omega, rfl, by simp [Lfc.Raw.sizes], by first | exact Below.refl _ _ | (rw [hw0]; exact Below.refl _ _)⟩
    case round =>
      have HGG := Lib.hid hG
      clear hw0 hG
      obtain ⟨k, hk, rfl, rfl, hbw⟩ := hrel
      have hbx : wr.cell? ⟨G, 3, none⟩ = some (.slice A ts.length c) := (hbw.cell (p := ⟨G, 3, none⟩) s0).trans HB.out
      have hle3 := s_sizes_take_le ts k
      by_cases hlt : k < ts.length
      · obtain ⟨b, o, k1, n1, p1, us, B, c1, rfl, hb, ht, c0', c1', c2', c3', hcu, hB, hT⟩ := (HA.out.below hbw).at_ hlt
        have hst := s_sizes_take ts k hlt
        have hle2 := s_sizes_take_le ts (k + 1)
        have hmem := Lfc.Raw.sizes_mem ts ts[k] (List.getElem_mem _)
        have HS := Lib.hid hst
        clear hB ht
        generalize hZ : ts[k].size = z at *
        generalize hY : Lfc.Raw.sizes (ts.take k) = y at *
        have HZ := Lib.hid hZ
        clear hZ hst hY
        go_wp2_with fail
        refine (IH.out ts[k] _ _ (by rw [HZ.out]; omega) (by rw [HZ.out]; omega) hT).mono ?_
        rintro e w1 ⟨rfl, hb1⟩
        rw [HZ.out]
        have hyz : y + z ≤ Lfc.Raw.sizes ts := by have := HS.out; omega
        go_wp2_with fail
        go_roundw
        case rel => exact ⟨k + 1, by omega, by go_num, by rw [HS.out]; go_num, hbw.trans (hb1.mono hbw.size)⟩
        case measure => simp [intOf]; omega
      · have hkl : k = ts.length := by omega
        go_wp2_with fail
        go_ret
        exact ⟨ret_int (by rw [hkl, List.take_length]), by rw [HGG.out]; exact b0.trans (hbw.mono (Nat.le_of_lt s0))⟩

set_option maxRecDepth 100000 in
set_option maxHeartbeats 1000000 in
theorem sDepth_any (m : Nat) : ∀ (t : Lfc.Raw) (v : Value) (w : World), t.size ≤ m → t.size ≤ 1000000000 → TreeV w t v →
    Calls Tryz.prog 42 #[v] w fun e w' => e = .returned (.int .i64 (t.depth : Int)) ∧ Below w.heap.size w w' := by
  induction m with
  | zero => intro t v w h _ _; have := t.size_pos; omega
  | succ m ih =>
    intro t v w hm hmax hv
    obtain ⟨kd, nm, ps, ts⟩ := t
    obtain ⟨A, c, rfl, hc, hA⟩ := hv.open_
    simp only [Lfc.Raw.size] at hm hmax
    simp only [Lfc.Raw.depth]
    have hlen := Lfc.Raw.sizes_len ts
    have IH := Lib.hid ih
    obtain ⟨w0, hw0⟩ : ∃ w0, w.alloc (.cells #[.int .i64 kd, S nm, .int .i64 ps, .slice A ts.length c] 51) = w0 := ⟨_, rfl⟩
    have b0 : Below w.heap.size w w0 := by rw [← hw0]; exact (Below.refl _ _).alloc (Nat.le_refl _) _
    have s0 : w.heap.size < w0.heap.size := by rw [← hw0]; simp
    have hbox : w0.cell? ⟨w.heap.size, 3, none⟩ = some (.slice A ts.length c) := by rw [← hw0]; simp [World.cell?_alloc_new]
    have HA := Lib.hid (hA.below b0)
    have HB := Lib.hid hbox
    clear ih hA hv hbox
    go_enter Tryz.func42, Tryz.ntmps42
    go_wp2_with fail
    generalize hG : w.heap.size = G at *
    go_loopw [3, 4] (fun n i wr => ∃ k : Nat, k ≤ ts.length ∧ i = .int .i64 k ∧ n = .int .i64 ((Lfc.Raw.depths (ts.take k) : Nat) : Int) ∧ Below w0.heap.size w0 wr) (fun _ i _ => ts.length - (intOf i).toNat)
    case atStart => exact ⟨0, by omega, rfl, by simp [Lfc.Raw.depths], by first | exact Below.refl _ _ | (rw [hw0]; exact Below.refl _ _)⟩
    case round =>
      have HGG := Lib.hid hG
      clear hw0 hG
      obtain ⟨k, hk, rfl, rfl, hbw⟩ := hrel
      have hbx : wr.cell? ⟨G, 3, none⟩ = some (.slice A ts.length c) := (hbw.cell (p := ⟨G, 3, none⟩) s0).trans HB.out
      have hle3 := s_sizes_take_le ts k
      have hle := s_depths_le (ts.take k)
      by_cases hlt : k < ts.length
      · obtain ⟨b, o, k1, n1, p1, us, B, c1, rfl, hb, ht, c0', c1', c2', c3', hcu, hB, hT⟩ := (HA.out.below hbw).at_ hlt
        have hst := s_depths_take ts k hlt
        have hle2 := s_sizes_take_le ts (k + 1)
        have hmem := Lfc.Raw.sizes_mem ts ts[k] (List.getElem_mem _)
        have hdz := Lfc.Raw.depth_le_size _ ts[k] (Nat.le_refl _)
        have HS := Lib.hid hst
        clear hB ht
        generalize hZ : ts[k].depth = z at *
        generalize hY : Lfc.Raw.depths (ts.take k) = y at *
        have HZ := Lib.hid hZ
        clear hZ hst hY
        go_wp2_with fail
        refine (IH.out ts[k] _ _ (by omega) (by omega) hT).mono ?_
        rintro e w1 ⟨rfl, hb1⟩
        rw [HZ.out]
        go_wp2_with fail
        go_roundw
        case rel => exact ⟨k + 1, by omega, by go_num, by rw [HS.out]; congr 1; omega, hbw.trans (hb1.mono hbw.size)⟩
        case measure => simp [intOf]; omega
      · have hkl : k = ts.length := by omega
        have hd := s_depths_le ts
        go_wp2_with fail
        go_ret
        exact ⟨ret_int (by omega), by rw [HGG.out]; exact b0.trans (hbw.mono (Nat.le_of_lt s0))⟩
end Go.Proofs.YtadjpadieljjlaaGreat
