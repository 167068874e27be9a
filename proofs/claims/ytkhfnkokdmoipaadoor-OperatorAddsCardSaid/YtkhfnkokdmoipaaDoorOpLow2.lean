/- The contract of the resolver's lowest. -/
import Derived.Test.YtkhfnkokdmoipaaDoorOpLow
set_option linter.unusedVariables false
set_option linter.unusedSimpArgs false
namespace Lfc
theorem rising_len : ∀ (l : List Nat) (a n : Nat), l.Pairwise (· < ·) → (∀ i ∈ l, a ≤ i ∧ i < n) → l.length ≤ n - a
  | [], _, _, _, _ => by simp
  | x :: r, a, n, hp, hb => by
    rw [List.pairwise_cons] at hp
    have hx := hb x List.mem_cons_self
    have := rising_len r (x + 1) n hp.2 (fun i hi => ⟨hp.1 i hi, (hb i (List.mem_cons_of_mem _ hi)).2⟩)
    simp only [List.length_cons]
    omega
theorem places_len {n : Nat} {l : List Nat} (h : Places n l) : l.length ≤ n := by
  have := rising_len l 0 n h.1 (fun i hi => ⟨Nat.zero_le _, h.2 i hi⟩)
  simpa using this
theorem lowStep_new (L : LowS) (j : Nat) (o : Op) (h : L.at_.length = 0 ∨ o.prec < L.first.prec) : lowStep L j (some o) = ⟨[j], o, true⟩ := if_pos h
theorem lowStep_more (L : LowS) (j : Nat) (o : Op) (h : ¬ (L.at_.length = 0 ∨ o.prec < L.first.prec)) (h2 : o.prec = L.first.prec) : lowStep L j (some o) = ⟨L.at_ ++ [j], L.first, L.same && decide (o.fix = L.first.fix)⟩ := (if_neg h).trans (if_pos h2)
theorem lowStep_not (L : LowS) (j : Nat) (o : Op) (h : ¬ (L.at_.length = 0 ∨ o.prec < L.first.prec)) (h2 : ¬ o.prec = L.first.prec) : lowStep L j (some o) = L := (if_neg h).trans (if_neg h2)
end Lfc
namespace Go.Proofs.YtkhfnkokdmoipaaDoor
open Go.RowKit Go.Maps Go.WideMaps

def natCells (l : List Nat) : List Value := l.map fun (i : Nat) => Value.int .i64 (i : Int)
theorem info_int : ∃ i, Tryd.prog.info? 3 = some i ∧ i.zero = some (.int .i64 0) ∧ i.size = 1 ∧ i.bytes = 8 := by
  obtain ⟨i0, hi, hz0, hz1, hz2⟩ := info_parts (show (Tryd.prog.info? 3).map (fun i => (i.zero, i.size, i.bytes)) = some (some (.int .i64 0), 1, 8) by kernel_rfl)
  exact ⟨i0, hi, hz0, hz1, hz2⟩
theorem own_mono {w : World} {b b' : Nat} {e : TypeId} {size n : Nat} {v : Value} {xs : List Value} (h : w.ownsRow b e size v n xs) (hb : b' ≤ b) : w.ownsRow b' e size v n xs := by
  refine ⟨h.1, ?_⟩
  rcases h.2 with hn | ⟨g, cap, cur, hv, hbg, rest⟩
  · exact .inl hn
  · exact .inr ⟨g, cap, cur, hv, Nat.le_trans hb hbg, rest⟩
/-- The loop of lowest: the row of places, the variable first. -/
structure LowI (w : World) (L : Lfc.LowS) (v : Value) (wr : World) : Prop where
  own : wr.ownsRow (w.heap.size + 1) 3 1 v L.at_.length (natCells L.at_)
  first : wr.heap[w.heap.size]? = some (.cells #[S L.first.name, .int .i64 L.first.fix, .int .i64 L.first.prec] 36 (0, 0))
  bel : Below w.heap.size w wr
theorem LowI.new {w wr w' : World} {L : Lfc.LowS} {v : Value} (h : LowI w L v wr) (hb : Below wr.heap.size wr w') : LowI w L v w' :=
  ⟨own_below h.own hb, (hb.block _ (lt_of_block h.first)).trans h.first, h.bel.trans (hb.mono h.bel.size)⟩

set_option maxRecDepth 100000 in
set_option maxHeartbeats 4000000 in
theorem lowest_any (w0 : World) (Rb Mb : Nat) (l : List Lfc.Op) (s : List Lfc.Opd) (A : Option Addr) (c : Nat) (w : World) (hl : s.length ≤ 1000000000) (hs : OpdsAt w0 A s) (h : EnvR w0 Rb Mb l w) :
    Calls Tryd.prog 52 #[.pointer (some ⟨Rb, 0, none⟩), .slice A s.length c] w fun e w' => ∃ A' c', e = .returned (.tuple #[.slice A' (Lfc.low l s).at_.length c', opV (Lfc.low l s).first, .bool (Lfc.low l s).same]) ∧ Hid (w'.ownsRow w.heap.size 3 1 (.slice A' (Lfc.low l s).at_.length c') (Lfc.low l s).at_.length (natCells (Lfc.low l s).at_)) ∧ Below w.heap.size w w' := by
  obtain ⟨i0, hi, hz0, hz1, hz2⟩ := info_int
  have HS := Lib.hid hs
  have HE := Lib.hid h
  have HPL := Lib.hid (fun j (hj : j ≤ s.length) => Lfc.low_places l s j hj)
  have HSUC := Lib.hid (fun j (hj : j < s.length) => Lfc.low_succ l s j hj)
  obtain ⟨wa, hwa⟩ : ∃ wa, w.alloc (.cells #[S [], .int .i64 0, .int .i64 0] 36) = wa := ⟨_, rfl⟩
  have L0 : Hid (LowI w Lfc.lowZ (.slice none 0 0) wa) := by
    rw [← hwa]
    exact Lib.hid ⟨(own_nil _ _ _ _ : World.ownsRow _ _ _ _ (.slice none 0 0) 0 []), heap_alloc_new _ _, (Below.refl _ _).alloc (Nat.le_refl _) _⟩
  clear hs h
  go_enter Tryd.func52, Tryd.ntmps52
  go_upto_region 1 with fail
  clear hwa
  go_wp2_with fail
  go_loopw [4, 6, 13] (fun v b i wr => ∃ j : Nat, j ≤ s.length ∧ i = .int .i64 j ∧ ∃ (L : Lfc.LowS) (A' : Option Addr) (c' : Nat), Hid (L = Lfc.low l (s.take j)) ∧ v = .slice A' L.at_.length c' ∧ b = .bool L.same ∧ Hid (LowI w L v wr)) (fun _ _ i _ => s.length - (intOf i).toNat)
  case atStart => exact ⟨0, by omega, rfl, Lfc.lowZ, none, 0, Lib.hid (by simp [Lfc.low, Lfc.lowN]), rfl, rfl, L0⟩
  case round =>
    obtain ⟨j, hj, rfl, L, A', c', HL, rfl, rfl, HI⟩ := hrel
    by_cases hlt : j < s.length
    · obtain ⟨b, o, k, n, p, ts, B, c1, rfl, hb, ht, d0, d1, d2, d3, d4, hT⟩ := (HS.out.below (HE.out.bel.trans (HI.out.bel.mono HE.out.bel.size))).at_ hlt
      obtain ⟨w3, hw3⟩ : ∃ w3, wr.alloc (.cells #[.int .i64 k, S n, .int .i64 p, .slice B ts.length c1, .bool s[j].closed] 42) = w3 := ⟨_, rfl⟩
      have b3 : Below wr.heap.size wr w3 := by rw [← hw3]; exact (Below.refl _ _).alloc (Nat.le_refl _) _
      have q3 : w3.heap[wr.heap.size]? = some (.cells #[.int .i64 k, S n, .int .i64 p, .slice B ts.length c1, .bool s[j].closed] 42 (0, 0)) := by rw [← hw3]; exact heap_alloc_new _ _
      have HOP := Lib.hid (operator_any w0 Rb Mb l s[j] _ w3 ⟨k, n, p, ts, B, c1, ht, rfl, hT.below b3⟩ (HE.out.new (HI.out.bel.trans (b3.mono HI.out.bel.size))))
      have HST := HSUC.out j hlt
      rw [← HL.out] at HST
      have HSTEP := Lib.hid HST
      have x0 : w3.cell? ⟨wr.heap.size, 0, none⟩ = some (.int .i64 k) := Lib.cell_of_heap q3 0
      have x1 : w3.cell? ⟨wr.heap.size, 1, none⟩ = some (S n) := Lib.cell_of_heap q3 1
      have x2 : w3.cell? ⟨wr.heap.size, 2, none⟩ = some (.int .i64 p) := Lib.cell_of_heap q3 2
      have x3 : w3.cell? ⟨wr.heap.size, 3, none⟩ = some (.slice B ts.length c1) := Lib.cell_of_heap q3 3
      have x4 : w3.cell? ⟨wr.heap.size, 4, none⟩ = some (.bool s[j].closed) := Lib.cell_of_heap q3 4
      have HW3 := Lib.hid hw3
      have I3 := Lib.hid (HI.out.new b3)
      have hpl := (HPL.out j hj)
      rw [← HL.out] at hpl
      have hatl : L.at_.length ≤ j := Lfc.places_len hpl
      have hi0 : (0 : Int) ≤ (j : Int) := Int.natCast_nonneg _
      have hi1 : (j : Int) < (s.length : Int) := by omega
      generalize hcl : s[j].closed = cl at *
      generalize hop : Lfc.opOf l s[j] = oo at *
      clear hT b3 q3 hw3 HST ht hcl hop hpl
      go_upto_region 4 with fail
      rw [HW3.out]
      go_wp2_with fail
      refine HOP.out.mono ?_
      rintro e w4 ⟨rfl, b4⟩
      have I4 := Lib.hid (I3.out.new b4)
      clear x0 x1 x2 x3 x4 d0 d1 d2 d3 d4 I3 b4
      cases oo with
      | none =>
        simp only [Option.getD_none, Option.isSome_none] at *
        obtain ⟨w5, hw5⟩ : ∃ w5, w4.alloc (.cells #[S [], .int .i64 0, .int .i64 0] 36) = w5 := ⟨_, rfl⟩
        have I5 : Hid (LowI w L (.slice A' L.at_.length c') w5) := by rw [← hw5]; exact Lib.hid (I4.out.new ((Below.refl _ _).alloc (Nat.le_refl _) _))
        have HW5 := Lib.hid hw5
        have hsame : Hid (L = Lfc.low l (s.take (j + 1))) := Lib.hid (by rw [HSTEP.out]; rfl)
        unfold opV opZ
        clear hw5
        go_upto_region 5 with fail
        rw [HW5.out]
        go_wp2_with fail
        go_roundw
        case rel => exact ⟨j + 1, by omega, by go_num, L, A', c', hsame, rfl, rfl, I5⟩
        case measure => simp [intOf]; omega
      | some oo =>
        simp only [Option.getD_some, Option.isSome_some] at *
        obtain ⟨on, of, op⟩ := oo
        obtain ⟨w5, hw5⟩ : ∃ w5, w4.alloc (.cells #[S on, .int .i64 of, .int .i64 op] 36) = w5 := ⟨_, rfl⟩
        have I5 : Hid (LowI w L (.slice A' L.at_.length c') w5) := by rw [← hw5]; exact Lib.hid (I4.out.new ((Below.refl _ _).alloc (Nat.le_refl _) _))
        have q5 : w5.heap[w4.heap.size]? = some (.cells #[S on, .int .i64 of, .int .i64 op] 36 (0, 0)) := by rw [← hw5]; exact heap_alloc_new _ _
        have hw45 := lt_of_block q5
        have hw4s : w.heap.size < w4.heap.size := lt_of_block I4.out.first
        obtain ⟨u0, u1, u2⟩ := cells3 q5
        obtain ⟨t0, t1, t2⟩ := cells3 I5.out.first
        have HW5 := Lib.hid hw5
        unfold opV
        simp only
        clear hw5 q5
        go_upto_region 5 with fail
        rw [HW5.out]
        by_cases hcase : L.at_.length = 0 ∨ op < L.first.prec
        · by_cases ha : L.at_.length = 0
          · have ha2 : ((L.at_.length : Int) == 0) = true := by simp [ha]
            have HA := Lib.hid ha
            clear ha
            have hL2 : Hid ((⟨[j], ⟨on, of, op⟩, true⟩ : Lfc.LowS) = Lfc.low l (s.take (j + 1))) := Lib.hid (by rw [HSTEP.out, Lfc.lowStep_new _ _ _ hcase])
            obtain ⟨s1, s2, s3, g1, g2, g3, ⟨y0, y1, y2⟩, ⟨f0, f1, f2⟩, hq, ho⟩ := put3 (W := (w5.alloc (.cells #[.int .i64 (j : Int)] 3)).drew) (heap_alloc_old _ _ _ _ I5.out.first) (S on) (.int .i64 of) (.int .i64 op)
            have HN : Hid (LowI w ⟨[j], ⟨on, of, op⟩, true⟩ (.slice (some ⟨w5.heap.size, 0, none⟩) 1 1) s3) := by
              have bz : Below w5.heap.size w5 (w5.alloc (.cells #[.int .i64 (j : Int)] 3)).drew := ((Below.refl _ _).alloc (Nat.le_refl _) _).drew
              have hsz := I5.out.bel.size
              have hf := lt_of_block I5.out.first
              have qn : s3.heap[w5.heap.size]? = some (.cells #[.int .i64 (j : Int)] 3 (0, 0)) := ho.heap (heap_alloc_new w5 _) (by omega)
              refine Lib.hid ⟨⟨rfl, .inr ⟨w5.heap.size, 1, _, rfl, by omega, qn, Nat.le_refl _, by unfold maxLen; omega, rfl, rfl⟩⟩, hq, Oth.below (I5.out.bel.trans (bz.mono hsz)) ho (Nat.le_refl _) (by have := bz.size; omega)⟩
            have r0 : s3.cell? ⟨w4.heap.size, 0, none⟩ = some (S on) := (ho.cell (p := ⟨w4.heap.size, 0, none⟩) (by simp; omega) (by simp only; omega)).trans ((World.cell?_of_block (Lib.alloc_old w5 _ _ hw45)).trans u0)
            have r1 : s3.cell? ⟨w4.heap.size, 1, none⟩ = some (.int .i64 of) := (ho.cell (p := ⟨w4.heap.size, 1, none⟩) (by simp; omega) (by simp only; omega)).trans ((World.cell?_of_block (Lib.alloc_old w5 _ _ hw45)).trans u1)
            have r2 : s3.cell? ⟨w4.heap.size, 2, none⟩ = some (.int .i64 op) := (ho.cell (p := ⟨w4.heap.size, 2, none⟩) (by simp; omega) (by simp only; omega)).trans ((World.cell?_of_block (Lib.alloc_old w5 _ _ hw45)).trans u2)
            clear hq ho
            go_wp2_with fail
            go_region_held3 (fun W => W.cell? ⟨w4.heap.size, 0, none⟩ = some (S on) ∧ W.cell? ⟨w4.heap.size, 1, none⟩ = some (.int .i64 of) ∧ W.cell? ⟨w4.heap.size, 2, none⟩ = some (.int .i64 op))
              (first | exact ⟨u0, u1, u2⟩ | exact ⟨r0, r1, r2⟩ | go_keep)
              (fail)
            all_goals
              go_wp2_with fail
              go_roundw
              case rel => exact ⟨j + 1, by omega, by go_num, ⟨[j], ⟨on, of, op⟩, true⟩, some ⟨w5.heap.size, 0, none⟩, 1, hL2, rfl, rfl, HN⟩
              case measure => simp [intOf]; omega
          · have ha2 : ((L.at_.length : Int) == 0) = false := by simp; intro e; exact ha (by simp [e])
            have hlt2 : op < L.first.prec := by omega
            have hlt3 : decide (op < L.first.prec) = true := by simpa using hlt2
            have HA := Lib.hid ha
            clear ha
            have hL2 : Hid ((⟨[j], ⟨on, of, op⟩, true⟩ : Lfc.LowS) = Lfc.low l (s.take (j + 1))) := Lib.hid (by rw [HSTEP.out, Lfc.lowStep_new _ _ _ hcase])
            obtain ⟨s1, s2, s3, g1, g2, g3, ⟨y0, y1, y2⟩, ⟨f0, f1, f2⟩, hq, ho⟩ := put3 (W := (w5.alloc (.cells #[.int .i64 (j : Int)] 3)).drew) (heap_alloc_old _ _ _ _ I5.out.first) (S on) (.int .i64 of) (.int .i64 op)
            have HN : Hid (LowI w ⟨[j], ⟨on, of, op⟩, true⟩ (.slice (some ⟨w5.heap.size, 0, none⟩) 1 1) s3) := by
              have bz : Below w5.heap.size w5 (w5.alloc (.cells #[.int .i64 (j : Int)] 3)).drew := ((Below.refl _ _).alloc (Nat.le_refl _) _).drew
              have hsz := I5.out.bel.size
              have hf := lt_of_block I5.out.first
              have qn : s3.heap[w5.heap.size]? = some (.cells #[.int .i64 (j : Int)] 3 (0, 0)) := ho.heap (heap_alloc_new w5 _) (by omega)
              refine Lib.hid ⟨⟨rfl, .inr ⟨w5.heap.size, 1, _, rfl, by omega, qn, Nat.le_refl _, by unfold maxLen; omega, rfl, rfl⟩⟩, hq, Oth.below (I5.out.bel.trans (bz.mono hsz)) ho (Nat.le_refl _) (by have := bz.size; omega)⟩
            have r0 : s3.cell? ⟨w4.heap.size, 0, none⟩ = some (S on) := (ho.cell (p := ⟨w4.heap.size, 0, none⟩) (by simp; omega) (by simp only; omega)).trans ((World.cell?_of_block (Lib.alloc_old w5 _ _ hw45)).trans u0)
            have r1 : s3.cell? ⟨w4.heap.size, 1, none⟩ = some (.int .i64 of) := (ho.cell (p := ⟨w4.heap.size, 1, none⟩) (by simp; omega) (by simp only; omega)).trans ((World.cell?_of_block (Lib.alloc_old w5 _ _ hw45)).trans u1)
            have r2 : s3.cell? ⟨w4.heap.size, 2, none⟩ = some (.int .i64 op) := (ho.cell (p := ⟨w4.heap.size, 2, none⟩) (by simp; omega) (by simp only; omega)).trans ((World.cell?_of_block (Lib.alloc_old w5 _ _ hw45)).trans u2)
            clear hq ho
            go_wp2_with fail
            go_region_held3 (fun W => W.cell? ⟨w4.heap.size, 0, none⟩ = some (S on) ∧ W.cell? ⟨w4.heap.size, 1, none⟩ = some (.int .i64 of) ∧ W.cell? ⟨w4.heap.size, 2, none⟩ = some (.int .i64 op))
              (first | exact ⟨u0, u1, u2⟩ | exact ⟨r0, r1, r2⟩ | go_keep)
              (fail)
            all_goals
              go_wp2_with fail
              go_roundw
              case rel => exact ⟨j + 1, by omega, by go_num, ⟨[j], ⟨on, of, op⟩, true⟩, some ⟨w5.heap.size, 0, none⟩, 1, hL2, rfl, rfl, HN⟩
              case measure => simp [intOf]; omega
        · have ha : ¬ L.at_.length = 0 := fun e => hcase (.inl e)
          have ha2 : ((L.at_.length : Int) == 0) = false := by simp; intro e; exact ha (by simp [e])
          have hlt2 : ¬ op < L.first.prec := fun e => hcase (.inr e)
          have hlt3 : decide (op < L.first.prec) = false := by simpa using hlt2
          have HA := Lib.hid ha
          clear ha
          by_cases hpe : op = L.first.prec
          · have hpe2 : (op == L.first.prec) = true := by simpa using hpe
            have HPE := Lib.hid hpe
            cases hsm : L.same
            · have HSM := Lib.hid hsm
              have hL2' : (false && decide (of = L.first.fix)) = false := by simp
              have hlm : L.at_.length + 1 ≤ maxLen := by unfold maxLen; omega
              have hl8 : (L.at_.length + 1) * 8 ≤ 140737488355328 := by omega
              have hL2 : Hid ((⟨L.at_ ++ [j], L.first, false⟩ : Lfc.LowS) = Lfc.low l (s.take (j + 1))) := Lib.hid (by rw [HSTEP.out, Lfc.lowStep_more _ _ _ hcase hpe]; simp [HSM.out])
              go_wp2_with (at_builtin; refine wpList_append_own_at _ rfl _ _ 22 rfl (w.heap.size + 1) 3 i0 (.int .i64 0) 1 8 Tryd.underlying22 hi hz0 hz1 hz2 rfl (by decide) _ _ _ rfl (I5.out.own.alloc _) ⟨w5.heap.size, 0, none⟩ 1 1 [.int .i64 (j : Int)] rfl rfl (cell_one_new _ _ _) (by intro u hu; simp at hu; subst hu; rfl) hlm hl8 (alloc_le (by have := lt_of_block I5.out.first; omega)) ?_)
              intro v' w6 hown6 hg6 _ _
              obtain ⟨A6, c6, rfl⟩ := own_form hown6
              have HN : Hid (LowI w ⟨L.at_ ++ [j], L.first, false⟩ (.slice A6 (L.at_ ++ [j]).length c6) w6) := by
                have hf := lt_of_block I5.out.first
                have e : natCells (L.at_ ++ [j]) = natCells L.at_ ++ [.int .i64 (j : Int)] := by simp [natCells]
                have bz : Below w5.heap.size w5 (w5.alloc (.cells #[.int .i64 (j : Int)] 3)) := (Below.refl _ _).alloc (Nat.le_refl _) _
                refine Lib.hid ⟨by rw [e, List.length_append]; exact hown6, ?_, (I5.out.bel.trans (bz.mono I5.out.bel.size)).grown hg6 (by have := bz.size; omega) (fun k hk => by have := own_block_ge I5.out.own k hk; omega)⟩
                rw [hg6.block _ (by simp; omega) (fun e => by have := own_block_ge I5.out.own _ e.symm; omega)]
                exact heap_alloc_old _ _ _ _ I5.out.first
              have HLN := Lib.hid (List.length_append : (L.at_ ++ [j]).length = _)
              have z0 : w6.cell? ⟨w.heap.size, 1, none⟩ = some (.int .i64 L.first.fix) := (cells3 HN.out.first).2.1
              have z1 : w6.cell? ⟨w4.heap.size, 1, none⟩ = some (.int .i64 of) := by
                have hne : some w4.heap.size ≠ (Value.slice A' L.at_.length c').ownBlock := fun e => by
                  have := (I4.out.own.lt _ e.symm).2
                  omega
                rw [World.cell?_of_block (a := ⟨w4.heap.size, 1, none⟩) (hg6.block _ (by simp; omega) hne), World.cell?_of_block (a := ⟨w4.heap.size, 1, none⟩) (Lib.alloc_old w5 _ _ hw45)]
                exact u1
              clear hown6 hg6
              go_wp2_with fail
              go_roundw
              case rel => exact ⟨j + 1, by omega, by go_num, ⟨L.at_ ++ [j], L.first, false⟩, A6, c6, hL2, by simp, by simp [*], by first | exact HN | (rw [HLN.out] at HN; exact HN)⟩
              case measure => simp [intOf]; omega
            · have HSM := Lib.hid hsm
              by_cases hfe : of = L.first.fix
              · have hfe2 : (of == L.first.fix) = true := by simpa using hfe
                have hlm : L.at_.length + 1 ≤ maxLen := by unfold maxLen; omega
                have hl8 : (L.at_.length + 1) * 8 ≤ 140737488355328 := by omega
                have hL2 : Hid ((⟨L.at_ ++ [j], L.first, true⟩ : Lfc.LowS) = Lfc.low l (s.take (j + 1))) := Lib.hid (by rw [HSTEP.out, Lfc.lowStep_more _ _ _ hcase hpe]; simp [HSM.out, hfe])
                go_wp2_with (at_builtin; refine wpList_append_own_at _ rfl _ _ 22 rfl (w.heap.size + 1) 3 i0 (.int .i64 0) 1 8 Tryd.underlying22 hi hz0 hz1 hz2 rfl (by decide) _ _ _ rfl (I5.out.own.alloc _) ⟨w5.heap.size, 0, none⟩ 1 1 [.int .i64 (j : Int)] rfl rfl (cell_one_new _ _ _) (by intro u hu; simp at hu; subst hu; rfl) hlm hl8 (alloc_le (by have := lt_of_block I5.out.first; omega)) ?_)
                intro v' w6 hown6 hg6 _ _
                obtain ⟨A6, c6, rfl⟩ := own_form hown6
                have HN : Hid (LowI w ⟨L.at_ ++ [j], L.first, true⟩ (.slice A6 (L.at_ ++ [j]).length c6) w6) := by
                  have hf := lt_of_block I5.out.first
                  have e : natCells (L.at_ ++ [j]) = natCells L.at_ ++ [.int .i64 (j : Int)] := by simp [natCells]
                  have bz : Below w5.heap.size w5 (w5.alloc (.cells #[.int .i64 (j : Int)] 3)) := (Below.refl _ _).alloc (Nat.le_refl _) _
                  refine Lib.hid ⟨by rw [e, List.length_append]; exact hown6, ?_, (I5.out.bel.trans (bz.mono I5.out.bel.size)).grown hg6 (by have := bz.size; omega) (fun k hk => by have := own_block_ge I5.out.own k hk; omega)⟩
                  rw [hg6.block _ (by simp; omega) (fun e => by have := own_block_ge I5.out.own _ e.symm; omega)]
                  exact heap_alloc_old _ _ _ _ I5.out.first
                have HLN := Lib.hid (List.length_append : (L.at_ ++ [j]).length = _)
                have z0 : w6.cell? ⟨w.heap.size, 1, none⟩ = some (.int .i64 L.first.fix) := (cells3 HN.out.first).2.1
                have z1 : w6.cell? ⟨w4.heap.size, 1, none⟩ = some (.int .i64 of) := by
                  have hne : some w4.heap.size ≠ (Value.slice A' L.at_.length c').ownBlock := fun e => by
                    have := (I4.out.own.lt _ e.symm).2
                    omega
                  rw [World.cell?_of_block (a := ⟨w4.heap.size, 1, none⟩) (hg6.block _ (by simp; omega) hne), World.cell?_of_block (a := ⟨w4.heap.size, 1, none⟩) (Lib.alloc_old w5 _ _ hw45)]
                  exact u1
                clear hown6 hg6
                go_wp2_with fail
                go_roundw
                case rel => exact ⟨j + 1, by omega, by go_num, ⟨L.at_ ++ [j], L.first, true⟩, A6, c6, hL2, by simp, by simp [*], by first | exact HN | (rw [HLN.out] at HN; exact HN)⟩
                case measure => simp [intOf]; omega
              · have hfe2 : (of == L.first.fix) = false := by simpa using hfe
                have hlm : L.at_.length + 1 ≤ maxLen := by unfold maxLen; omega
                have hl8 : (L.at_.length + 1) * 8 ≤ 140737488355328 := by omega
                have hL2 : Hid ((⟨L.at_ ++ [j], L.first, false⟩ : Lfc.LowS) = Lfc.low l (s.take (j + 1))) := Lib.hid (by rw [HSTEP.out, Lfc.lowStep_more _ _ _ hcase hpe]; simp [HSM.out, hfe])
                go_wp2_with (at_builtin; refine wpList_append_own_at _ rfl _ _ 22 rfl (w.heap.size + 1) 3 i0 (.int .i64 0) 1 8 Tryd.underlying22 hi hz0 hz1 hz2 rfl (by decide) _ _ _ rfl (I5.out.own.alloc _) ⟨w5.heap.size, 0, none⟩ 1 1 [.int .i64 (j : Int)] rfl rfl (cell_one_new _ _ _) (by intro u hu; simp at hu; subst hu; rfl) hlm hl8 (alloc_le (by have := lt_of_block I5.out.first; omega)) ?_)
                intro v' w6 hown6 hg6 _ _
                obtain ⟨A6, c6, rfl⟩ := own_form hown6
                have HN : Hid (LowI w ⟨L.at_ ++ [j], L.first, false⟩ (.slice A6 (L.at_ ++ [j]).length c6) w6) := by
                  have hf := lt_of_block I5.out.first
                  have e : natCells (L.at_ ++ [j]) = natCells L.at_ ++ [.int .i64 (j : Int)] := by simp [natCells]
                  have bz : Below w5.heap.size w5 (w5.alloc (.cells #[.int .i64 (j : Int)] 3)) := (Below.refl _ _).alloc (Nat.le_refl _) _
                  refine Lib.hid ⟨by rw [e, List.length_append]; exact hown6, ?_, (I5.out.bel.trans (bz.mono I5.out.bel.size)).grown hg6 (by have := bz.size; omega) (fun k hk => by have := own_block_ge I5.out.own k hk; omega)⟩
                  rw [hg6.block _ (by simp; omega) (fun e => by have := own_block_ge I5.out.own _ e.symm; omega)]
                  exact heap_alloc_old _ _ _ _ I5.out.first
                have HLN := Lib.hid (List.length_append : (L.at_ ++ [j]).length = _)
                have z0 : w6.cell? ⟨w.heap.size, 1, none⟩ = some (.int .i64 L.first.fix) := (cells3 HN.out.first).2.1
                have z1 : w6.cell? ⟨w4.heap.size, 1, none⟩ = some (.int .i64 of) := by
                  have hne : some w4.heap.size ≠ (Value.slice A' L.at_.length c').ownBlock := fun e => by
                    have := (I4.out.own.lt _ e.symm).2
                    omega
                  rw [World.cell?_of_block (a := ⟨w4.heap.size, 1, none⟩) (hg6.block _ (by simp; omega) hne), World.cell?_of_block (a := ⟨w4.heap.size, 1, none⟩) (Lib.alloc_old w5 _ _ hw45)]
                  exact u1
                clear hown6 hg6
                go_wp2_with fail
                go_roundw
                case rel => exact ⟨j + 1, by omega, by go_num, ⟨L.at_ ++ [j], L.first, false⟩, A6, c6, hL2, by simp, by simp [*], by first | exact HN | (rw [HLN.out] at HN; exact HN)⟩
                case measure => simp [intOf]; omega
          · have hpe2 : (op == L.first.prec) = false := by simpa using hpe
            have hL2 : Hid (L = Lfc.low l (s.take (j + 1))) := Lib.hid (by rw [HSTEP.out, Lfc.lowStep_not _ _ _ hcase hpe])
            go_wp2_with fail
            go_roundw
            case rel => exact ⟨j + 1, by omega, by go_num, L, A', c', hL2, rfl, rfl, I5⟩
            case measure => simp [intOf]; omega
    · have hjl : j = s.length := by omega
      have HL2 : Hid (L = Lfc.low l s) := Lib.hid (by rw [HL.out, hjl, List.take_length])
      obtain ⟨t0, t1, t2⟩ := cells3 HI.out.first
      obtain ⟨s1, s2, s3, g1, g2, g3, ⟨y0, y1, y2⟩, ⟨f0, f1, f2⟩, hq, ho⟩ := put3 (W := wr.drew) HI.out.first (S L.first.name) (.int .i64 L.first.fix) (.int .i64 L.first.prec)
      have HO := Lib.hid ho
      have HQ := Lib.hid hq
      obtain ⟨e0, e1, e2⟩ := cells3 hq
      clear hq ho
      have hfin : ∀ x y, x = Ending.returned (.tuple #[.slice A' L.at_.length c', .agg #[S L.first.name, .int .i64 L.first.fix, .int .i64 L.first.prec], .bool L.same]) → y = s3 → ∃ A' c', x = .returned (.tuple #[.slice A' (Lfc.low l s).at_.length c', opV (Lfc.low l s).first, .bool (Lfc.low l s).same]) ∧ Hid (y.ownsRow w.heap.size 3 1 (.slice A' (Lfc.low l s).at_.length c') (Lfc.low l s).at_.length (natCells (Lfc.low l s).at_)) ∧ Below w.heap.size w y := fun x y hx hy => by
        subst hx hy
        rw [← HL2.out]
        refine ⟨A', c', rfl, Lib.hid (own_mono (World.ownsRow.kept (w := wr.drew) HI.out.own.drew HO.out (Or.inr (fun e => by have := own_block_ge HI.out.own _ e; omega))) (by omega)), Oth.below HI.out.bel.drew HO.out (Nat.le_refl _) HI.out.bel.size⟩
      have HF := Lib.hid hfin
      clear hfin
      go_wp2_with fail
      go_region_held3 (fun W => W.cell? ⟨w.heap.size, 0, none⟩ = some (S L.first.name) ∧ W.cell? ⟨w.heap.size, 1, none⟩ = some (.int .i64 L.first.fix) ∧ W.cell? ⟨w.heap.size, 2, none⟩ = some (.int .i64 L.first.prec))
        (first | exact ⟨t0, t1, t2⟩ | exact ⟨e0, e1, e2⟩)
        (fail)
      all_goals
        go_wp2_with fail
        refine bodyPost_ret (results_op3 rfl _ _ _ _ _ _ rfl HQ.out) rfl ?_
        exact HF.out _ _ rfl rfl
end Go.Proofs.YtkhfnkokdmoipaaDoor
