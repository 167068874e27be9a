/- Parts of the proof: OpLevC. -/
import Derived.Test.YtkhfnkokdmoipaaOpM5
import Derived.IntWalk
import Derived.Deep.DrawnRows
/- lfchecklaw03.chain. -/
set_option linter.unusedVariables false
set_option linter.unusedSimpArgs false
namespace Lfc
def abc : List (List UInt8) := [[97], [98], [99]]
def opN : List (List UInt8) := [[43], [42], [94], [42]]
/-- The chain of the indices. -/
def chainL : Nat → List Nat → List Opd
  | _, [] => []
  | i, q :: r => nmO (opN.getD q []) :: nmO (abc.getD (i % 3) []) :: chainL (i + 1) r
theorem abc_mem (k : Nat) (h : k < 3) : abc.getD k [] ∈ lvX ∧ (abc.getD k []).length ≤ 1 := by
  have : ∀ k : Fin 3, abc.getD k.val [] ∈ lvX ∧ (abc.getD k.val []).length ≤ 1 := by decide
  exact this ⟨k, h⟩
theorem opN_mem (k : Nat) (h : k < 4) : opN.getD k [] ∈ lvO ∧ (opN.getD k []).length ≤ 1 := by
  have : ∀ k : Fin 4, opN.getD k.val [] ∈ lvO ∧ (opN.getD k.val []).length ≤ 1 := by decide
  exact this ⟨k, h⟩
theorem alt_one : AltP [nmO [97]] := ⟨rfl, fun i x h => by
  match i, h with
  | 0, h => simp at h; subst h; exact ⟨fun _ => ⟨[97], by simp [lvX], rfl⟩, fun h => by omega⟩
  | i + 1, h => simp at h⟩
theorem alt_push {s : List Opd} (h : AltP s) {a b : List UInt8} (ha : a ∈ lvO) (hb : b ∈ lvX) : AltP (s ++ [nmO a, nmO b]) := by
  have h1 := h.1
  refine ⟨by simp; omega, fun i x hx => ?_⟩
  rcases Nat.lt_or_ge i s.length with hi | hi
  · rw [List.getElem?_append_left hi] at hx; exact h.2 i x hx
  · rw [List.getElem?_append_right hi] at hx
    obtain ⟨j, rfl⟩ : ∃ j, i = s.length + j := ⟨i - s.length, by omega⟩
    rw [show s.length + j - s.length = j by omega] at hx
    match j, hx with
    | 0, hx => simp at hx; subst hx; exact ⟨fun _ => by omega, fun _ => ⟨a, ha, rfl⟩⟩
    | 1, hx => simp at hx; subst hx; exact ⟨fun _ => ⟨b, hb, rfl⟩, fun _ => by omega⟩
    | j + 2, hx => simp at hx
end Lfc
namespace Go.Proofs.Ytkhfnkokdmoipaa
open Go.RowKit Go.Maps Go.WideMaps
attribute [local go_sem ↓] Go.wp_at_zero Go.wp_at_succ

theorem abc_cell (w : World) (k : Nat) (h : k < 3) : (w.alloc (.cells #[S [97], S [98], S [99]] 9)).cell? ⟨w.heap.size, k, none⟩ = some (S (Lfc.abc.getD k [])) := by
  have q := heap_alloc_new w (.cells #[S [97], S [98], S [99]] 9)
  match k, h with
  | 0, _ => exact Lib.cell_of_heap q 0
  | 1, _ => exact Lib.cell_of_heap q 1
  | 2, _ => exact Lib.cell_of_heap q 2
theorem opN_cell {w : World} {g : Nat} (q : w.heap[g]? = some (.cells #[S [43], S [42], S [94], S [42]] 9 (0, 0))) (k : Nat) (h : k < 4) : w.cell? ⟨g, k, none⟩ = some (S (Lfc.opN.getD k [])) := by
  match k, h with
  | 0, _ => exact Lib.cell_of_heap q 0
  | 1, _ => exact Lib.cell_of_heap q 1
  | 2, _ => exact Lib.cell_of_heap q 2
  | 3, _ => exact Lib.cell_of_heap q 3
/-- Ten cells laid: two operands. -/
theorem two_new (w : World) (a b : List UInt8) : ∀ j u, (nC a ++ nC b)[j]? = some u → (w.alloc (.cells #[.int .i64 1, S a, .int .i64 0, .slice none 0 0, .bool false, .int .i64 1, S b, .int .i64 0, .slice none 0 0, .bool false] 37)).cell? ((⟨w.heap.size, 0, none⟩ : Addr).add j) = some u := fun j u h =>
  cells_new w _ rfl (nC a ++ nC b) 37 j u h
theorem two_one (a b : List UInt8) : ∀ u ∈ nC a ++ nC b, u.oneCell' = true := fun u hu => by
  rcases List.mem_append.1 hu with h | h <;> exact nC_one _ u h
/-- The loop of chain. -/
structure ChI (w : World) (s : List Lfc.Opd) (vs : Value) (W : World) : Prop where
  bel : Below w.heap.size w W
  own : W.ownsRow w.heap.size 37 5 vs s.length (nCells s)
  alt : Lfc.AltP s
theorem ChI.names {w W : World} {s : List Lfc.Opd} {vs : Value} (h : ChI w s vs W) : NamesO s := fun x hx => by
  obtain ⟨n, hn, e⟩ := Lfc.alt_mem h.alt hx
  refine ⟨n, e, ?_⟩
  have h1 : ∀ n ∈ Lfc.lvX ++ Lfc.lvO, n.length ≤ 1000000 := by decide
  exact h1 n (List.mem_append.2 hn)

theorem ChI.push {w wr W w' : World} {s : List Lfc.Opd} {vs v' : Value} {a b : List UInt8} {o : Obj} (h : ChI w s vs wr) (hb : Below wr.heap.size wr W) (hg : (W.alloc o).grownBy w' vs.ownBlock) (ho : w'.ownsRow w.heap.size 37 5 v' (s.length + 2) (nCells s ++ (nC a ++ nC b))) (ha : a ∈ Lfc.lvO) (hx : b ∈ Lfc.lvX) : ChI w (s ++ [Lfc.nmO a, Lfc.nmO b]) v' w' := by
  have hs := h.bel.size
  have hbw : Below w.heap.size w (W.alloc o) := (h.bel.trans (hb.mono hs)).alloc (Nat.le_trans hs hb.size) _
  refine ⟨hbw.grown hg hbw.size (fun k hk => (h.own.lt k hk).1), ?_, Lfc.alt_push h.alt ha hx⟩
  rw [nCells_app, List.length_append]
  exact ho
theorem ch_new {W w1 : World} (hb : Below W.heap.size W w1) : ∀ b o, b < W.heap.size → w1.cell? ⟨b, o, none⟩ = W.cell? ⟨b, o, none⟩ := fun b o h => hb.cell (p := ⟨b, o, none⟩) h

/-- What chain leaves. -/
def ChPost (w : World) (e : Ending) (w' : World) : Prop := ∃ s A c, e = .returned (.slice A s.length c) ∧ ChI w s (.slice A s.length c) w' ∧ s.length ≤ 41

set_option maxRecDepth 100000 in
set_option maxHeartbeats 4000000 in
theorem chain_any (v0 : Value) (zs : List Int) (w : World) (g : Nat) (i0 : IntsAt w v0 zs) (hg : w.heap[g]? = some (.cells #[S [43], S [42], S [94], S [42]] 9 (0, 0))) :
    Calls Try.prog 6 #[v0, .slice (some ⟨g, 0, none⟩) 4 4] w (ChPost w) := by
  obtain ⟨A, c, rfl, hmax, hcells⟩ := i0
  obtain ⟨it, hi, hz0, hz1, hz2⟩ := opd_info
  unfold maxLen at hmax
  have Hcells := Lib.hid hcells
  have HG := Lib.hid hg
  clear hcells hg
  go_enter Try.func6, Try.ntmps6
  go_wp2_with fail
  refine (name_any3 [97] _).mono ?_
  rintro e w1 ⟨rfl, b1⟩
  obtain ⟨w2, hw2, b2, q2, s2, _, ho2⟩ := lay5 w1 [97]
  have I2 : Hid (ChI w [Lfc.nmO [97]] (.slice (some ⟨w1.heap.size, 0, none⟩) 1 1) w2) := Lib.hid ⟨b1.trans (b2.mono b1.size), ho2 _ b1.size, Lfc.alt_one⟩
  have HW2 := Lib.hid hw2
  clear b1 b2 q2 hw2 ho2
  go_upto_region 2 with fail
  rw [HW2.out]
  go_wp2_with fail
  go_loopw [5, 6] (fun vs i wr => ∃ (k : Nat) (s : List Lfc.Opd), k ≤ zs.length ∧ k ≤ 20 ∧ i = .int .i64 k ∧ s.length ≤ 2 * k + 1 ∧ (∃ A c, vs = .slice A s.length c) ∧ Hid (ChI w s vs wr)) (fun _ i _ => zs.length - (intOf i).toNat)
  case atStart => exact ⟨0, [Lfc.nmO [97]], by omega, by omega, rfl, by simp, ⟨_, _, rfl⟩, I2⟩
  case round =>
    obtain ⟨k, s, hk, hk2, rfl, hsl, ⟨As, cs, rfl⟩, HI⟩ := hrel
    by_cases hlt : k < zs.length ∧ k < 20
    · obtain ⟨hlt, h20⟩ := hlt
      obtain ⟨b, o, rfl, hb, hcs⟩ := Hcells.out (by omega)
      have hbw := HI.out.bel
      have hc1 : wr.cell? ⟨b, o + k, none⟩ = some (.int .i64 (zs.getD k 0)) := (hbw.cell (p := ⟨b, o + k, none⟩) hb).trans (hcs k hlt)
      generalize zs.getD k 0 = x at *
      have hcut := cutI_lt x 4 (by omega)
      have CC := Lib.hid (show ∀ W, Calls Try.prog 5 #[.int .i64 x, .int .i64 4] W fun e w' => e = .returned (.int .i64 (cutI x 4 : Int)) ∧ w' = W from fun W => cut_any x 4 W (by omega) (by omega))
      generalize cutI x 4 = q at *
      have hgl := lt_of_block HG.out
      have hc2 : wr.cell? ⟨g, q, none⟩ = some (S (Lfc.opN.getD q [])) := opN_cell ((hbw.block _ hgl).trans HG.out) q hcut
      have HP := Lib.hid (Lfc.opN_mem q hcut)
      generalize Lfc.opN.getD q [] = n1 at *
      obtain ⟨m, hm⟩ : ∃ m, k % 3 = m := ⟨_, rfl⟩
      have hm3 : m < 3 := by omega
      have HA := Lib.hid (fun W => abc_cell W m hm3)
      have HQ := Lib.hid (Lfc.abc_mem m hm3)
      generalize Lfc.abc.getD m [] = n2 at *
      have hq0 : (0 : Int) ≤ (q : Int) := by omega
      have hq1 : (q : Int) < 4 := by omega
      have hm0 : (0 : Int) ≤ (m : Int) := by omega
      have hm1 : (m : Int) < 3 := by omega
      have hk0 : (0 : Int) ≤ (k : Int) := by omega
      have hk1 : (k : Int) < (zs.length : Int) := by omega
      have hd1 : decide (k < zs.length) = true := by simp; omega
      have hd2 : decide ((k : Int) < 20) = true := by simp; omega
      have G0 : Below wr.heap.size wr wr.drew := (Below.refl _ _).drew
      have aa : ∀ W W', Below wr.heap.size wr W → Below W.heap.size W W' → Below wr.heap.size wr W' := fun W W' h h' => h.trans (h'.mono h.size)
      have al : ∀ W o, Below wr.heap.size wr W → Below wr.heap.size wr (W.alloc o) := fun W o h => h.alloc h.size _
      have SC := Lib.hid (show ∀ W, Below wr.heap.size wr W → W.cell? ⟨b, o + k, none⟩ = some (.int .i64 x) ∧ W.cell? ⟨g, q, none⟩ = some (S n1) from fun W hb' => ⟨(hb'.cell (p := ⟨b, _, none⟩) (Nat.lt_of_lt_of_le hb hbw.size)).trans hc1, (hb'.cell (p := ⟨g, _, none⟩) (Nat.lt_of_lt_of_le hgl hbw.size)).trans hc2⟩)
      have HOW := Lib.hid (fun W (h : Below wr.heap.size wr W) => own_below HI.out.own h)
      have hlm : s.length + 2 ≤ maxLen := by unfold maxLen; omega
      have hl64 : (s.length + 2) * 64 ≤ 140737488355328 := by omega
      have hbs := hbw.size
      have HA' := HA.out
      clear hcs hbw hc1 hc2 HA
      have htm : Int.tmod (k : Int) 3 = (m : Int) := by rw [← hm]; rfl
      clear hm
      go_wp2_with fail
      obtain ⟨y1, y2⟩ := SC.out wr (Below.refl _ _)
      have ya : ∀ o', (wr.alloc o').cell? ⟨b, o + k, none⟩ = some (.int .i64 x) ∧ (wr.alloc o').cell? ⟨g, q, none⟩ = some (S n1) := fun o' => SC.out _ (al _ _ (Below.refl _ _))
      go_region_law (first
        | (go_simp; go_at_call 5; ((with_reducible refine (CC.out _).mono ?_)); rintro e wq ⟨rfl, hwq⟩; obtain rfl := hwq.symm; clear hwq)
        | (go_simp; go_at_call 10; refine (name_any3 _ _).mono ?_; rintro e wn ⟨rfl, bn'⟩; have bn := aa _ _ (by first | assumption | exact al _ _ (by assumption)) bn'; have hx := ch_new bn'; clear bn')
        | (refine step_append_own_at _ (by rfl) _ _ 27 (by rfl) w.heap.size 37 it (.agg #[.int .i64 0, S [], .int .i64 0, .slice none 0 0, .bool false]) 5 64 Try.underlying27 hi hz0 hz1 hz2 rfl (by decide) _ _ _ (by rfl) ((HOW.out wn bn).alloc _) ⟨wn.heap.size, 0, none⟩ 2 2 (nC n1 ++ nC n2) (by rfl) (by rfl) (two_new wn n1 n2) (two_one n1 n2) hlm hl64 (alloc_le (Nat.le_trans hbs bn.size)) ?_; intro v' w10 hown10 hg10 hloc10))
      all_goals
        obtain ⟨A10, c10, rfl⟩ := own_form hown10
        have IN := Lib.hid (HI.out.push bn hg10 hown10 HP.out.1 HQ.out.1)
        clear hown10 hg10 hloc10 ya y1 y2 HA' htm
        go_wp2_with fail
        go_roundw
        case rel => exact ⟨k + 1, s ++ [Lfc.nmO n1, Lfc.nmO n2], by omega, by omega, by go_num, by simp; omega, ⟨A10, c10, by simp⟩, IN⟩
        case measure => simp [intOf]; omega
    · have hex : decide (k < zs.length) = false ∨ (decide (k < zs.length) = true ∧ decide ((k : Int) < 20) = false) := by
        by_cases h1 : k < zs.length
        · exact .inr ⟨by simp; omega, by simp; omega⟩
        · exact .inl (by simp; omega)
      rcases hex with hd1 | ⟨hd1, hd2⟩
      all_goals
        go_wp2_with fail
        go_ret
        exact ⟨s, As, cs, rfl, HI.out, by omega⟩
end Go.Proofs.Ytkhfnkokdmoipaa
