/- The contract of lfcheckmade.Order: some order of bounded size. -/
import Derived.Test.YtadjpadieljjlaaOrMv
import Derived.Test.YtadjpadieljjlaaOrTape
set_option linter.unusedVariables false
set_option linter.unusedSimpArgs false
namespace Go.Proofs.Ytadjpadieljjlaa
open Go.RowKit Go.Maps
attribute [local go_sem ↓] Go.wp_at_zero Go.wp_at_succ
theorem TapeI.same {T : Nat} {w w' : World} (h : TapeI T w) (hk : ∀ b, b ≤ T → w'.heap[b]? = w.heap[b]?) : TapeI T w' := by
  obtain ⟨A, n, c, i, ht, hi, hn, hc⟩ := h.t
  refine ⟨⟨A, n, c, i, (hk T (Nat.le_refl _)).trans ht, hi, hn, fun hp => ?_⟩⟩
  obtain ⟨b, o, hA, hbT, hx⟩ := hc hp
  refine ⟨b, o, hA, hbT, fun k hk2 => ?_⟩
  obtain ⟨x, hx⟩ := hx k hk2
  exact ⟨x, (World.cell?_of_block (hk b (by omega))).trans hx⟩
/-- The state of the loop: the order in block R, its parts, the tape in block T. -/
structure MkI (wa : World) (T R base P : Nat) (k : Int) (os : List Lfc.Ord) (A : Option Addr) (c : Nat) (xs : List Value) (wr : World) : Prop where
  r : wr.heap[R]? = some (.cells #[.int .i64 k, .int .i64 0, .slice A os.length c] 28 (0, 0))
  own : wr.ownsRow base 28 3 (.slice A os.length c) os.length xs
  row : ORow (fun b => base ≤ b ∧ some b ≠ (Value.slice A os.length c).ownBlock) wr os xs
  oth : Oth T wa wr
  tape : TapeI T wr
  size : base ≤ wr.heap.size
  few : Lfc.Ord.sizes os + os.length ≤ os.length * P
  mods : Lfc.Ord.mods 1000 os = true
/-- What Order answers. -/
def MadeO (w : World) (T P : Nat) (e : Ending) (w' : World) : Prop :=
  (∃ o v, e = .returned v ∧ OrdVP (fun b => w.heap.size ≤ b) w' o v ∧ o.size + 1 ≤ P ∧ o.mod 1000 = true) ∧ TapeI T w' ∧ Oth T w w'

set_option maxRecDepth 100000 in
set_option maxHeartbeats 8000000 in
theorem mOrder_any : ∀ (d : Nat), d ≤ 3 → ∀ (T : Nat) (w : World), TapeI T w →
    Calls Try.prog 4 #[.pointer (some ⟨T, 0, none⟩), .int .i64 (d : Int)] w (MadeO w T (2 ^ (d + 1))) := by
  intro d
  induction d using Nat.strongRecOn with
  | ind d ih0 =>
  intro hd3 T w hT
  have IH := Lib.hid ih0
  clear ih0
  have hTl := hT.lt
  obtain ⟨i0, hi, hz0, hz1, hz2⟩ := ord_info
  obtain ⟨wa, hwa⟩ : ∃ wa, w.alloc (.cells #[.int .i64 0, .int .i64 0, .slice none 0 0] 28) = wa := ⟨_, rfl⟩
  have ba : Below w.heap.size w wa := by rw [← hwa]; exact (Below.refl _ _).alloc (Nat.le_refl _) _
  have qa : wa.heap[w.heap.size]? = some (.cells #[.int .i64 0, .int .i64 0, .slice none 0 0] 28 (0, 0)) := by rw [← hwa]; exact heap_alloc_new _ _
  have la := lt_of_block qa
  have QA := Lib.hid qa
  have OA : Hid (Oth T w wa) := Lib.hid (Oth.of_below ba)
  have TA := Lib.hid (hT.below ba)
  clear hT ba qa
  go_enter Try.func4, Try.ntmps4
  go_wp2_with fail
  refine (tapeI_next T 3 wa (by omega) (by omega) TA.out).mono ?_
  rintro e w1 ⟨⟨r1, hr1, rfl⟩, T1', o1'⟩
  have T1 := Lib.hid T1'
  have O1 := Lib.hid o1'
  have hs1 := o1'.size
  clear T1' o1' hwa
  obtain ⟨kI, hkI⟩ : ∃ kI : Int, IntKind.i64.wrap (1 + (r1 : Int)) = kI := ⟨_, rfl⟩
  have hkv : kI = 1 + (r1 : Int) := by rw [← hkI]; exact IntWalk.i64_in _ (by omega)
  by_cases hleaf : d = 0 ∨ kI = 1
  · have leaf : ∀ (r2 : Nat) (w2 : World), r2 < 4 → TapeI T w2 → Oth T w1 w2 → ∃ s1 s2 s3, w2.setCell ⟨w.heap.size, 0, none⟩ (.int .i64 1) = s1 ∧ s1.setCell ⟨w.heap.size, 1, none⟩ (.int .i64 (1 + (r2 : Int))) = s2 ∧ s2.setCell ⟨w.heap.size, 2, none⟩ (.slice none 0 0) = s3 ∧
        (w2.cell? ⟨w.heap.size, 0, none⟩ = some (.int .i64 0) ∧ s1.cell? ⟨w.heap.size, 1, none⟩ = some (.int .i64 0) ∧ s2.cell? ⟨w.heap.size, 2, none⟩ = some (.slice none 0 0)) ∧
        (w2.frozen? ⟨w.heap.size, 0, none⟩ = false ∧ s1.frozen? ⟨w.heap.size, 1, none⟩ = false ∧ s2.frozen? ⟨w.heap.size, 2, none⟩ = false) ∧
        s3.heap[w.heap.size]? = some (.cells #[.int .i64 1, .int .i64 (1 + (r2 : Int)), .slice none 0 0] 28 (0, 0)) ∧ Hid (MadeO w T (2 ^ (d + 1)) (.returned (.agg #[.int .i64 1, .int .i64 (1 + (r2 : Int)), .slice none 0 0])) s3) := by
      intro r2 w2 hr2 t2 o2
      have hq2 := o2.heap (O1.out.heap QA.out (by omega)) (show w.heap.size ≠ T by omega)
      obtain ⟨s1, s2, s3, g1, g2, g3, hy, hf, hq, hot⟩ := oput3 hq2 (.int .i64 1) (.int .i64 (1 + (r2 : Int))) (.slice none 0 0)
      refine ⟨s1, s2, s3, g1, g2, g3, hy, hf, hq, Lib.hid ⟨⟨.node 1 (1 + (r2 : Int)) [], _, rfl, OrdVP.mk (ts := []) (Nat.zero_le _) (fun h => absurd rfl h), ?_, ?_⟩, t2.oth (by omega) hot, ?_⟩⟩
      · have := Nat.one_le_two_pow (n := d)
        rw [Nat.pow_succ]
        simp only [Lfc.Ord.size, Lfc.Ord.sizes]
        omega
      · simp only [Lfc.Ord.mod, Lfc.Ord.mods, Bool.and_true, Bool.and_eq_true, decide_eq_true_eq]
        omega
      · refine Oth.of_new ((OA.out.trans O1.out).trans o2) ⟨hot.os, hot.tape, hot.output, hot.size, fun b hb => hot.block b (by have := o2.size; omega) (fun e => by have := Option.some.inj e; omega)⟩
    have LEAF := Lib.hid leaf
    clear leaf
    have hw4 : ∀ r2 : Nat, r2 < 4 → IntKind.i64.wrap (1 + (r2 : Int)) = 1 + (r2 : Int) := fun r2 h => IntWalk.i64_in _ (by omega)
    have HW4 := Lib.hid hw4
    clear hw4
    by_cases hd0 : d = 0
    · have hd1 : decide ((d : Int) ≤ 0) = true := by rw [decide_eq_true_eq]; omega
      clear hleaf
      go_wp2_with fail
      refine (tapeI_next T 4 w1 (by omega) (by omega) T1.out).mono ?_
      rintro e w2 ⟨⟨r2, hr2, rfl⟩, T2, o2⟩
      have hw4 := HW4.out r2 hr2
      obtain ⟨s1, s2, s3, g1, g2, g3, ⟨p0, p1, p2⟩, ⟨f0, f1, f2⟩, hq, HZ⟩ := LEAF.out r2 w2 hr2 T2 o2
      have HQ := Lib.hid hq
      clear hq T2 o2
      go_wp2_with fail
      refine bodyPost_ret (results_ord rfl _ _ _ _ _ _ rfl HQ.out) rfl ?_
      exact HZ.out
    · have hd1 : decide ((d : Int) ≤ 0) = false := by rw [decide_eq_false_iff_not]; omega
      have hk1 : kI = 1 := hleaf.resolve_left hd0
      obtain rfl : r1 = 0 := by omega
      clear hleaf hkv hk1 hkI
      go_wp2_with fail
      refine (tapeI_next T 4 w1 (by omega) (by omega) T1.out).mono ?_
      rintro e w2 ⟨⟨r2, hr2, rfl⟩, T2, o2⟩
      have hw4 := HW4.out r2 hr2
      obtain ⟨s1, s2, s3, g1, g2, g3, ⟨p0, p1, p2⟩, ⟨f0, f1, f2⟩, hq, HZ⟩ := LEAF.out r2 w2 hr2 T2 o2
      have HQ := Lib.hid hq
      clear hq T2 o2
      go_wp2_with fail
      refine bodyPost_ret (results_ord rfl _ _ _ _ _ _ rfl HQ.out) rfl ?_
      exact HZ.out
  · have hd0 : ¬ d = 0 := fun h => hleaf (.inl h)
    clear hkI
    subst hkv
    have hk1 : (1 + (r1 : Int) == 1) = false := by simpa using fun h => hleaf (.inr (by omega))
    have hd1 : decide ((d : Int) ≤ 0) = false := by rw [decide_eq_false_iff_not]; omega
    have hdw : IntKind.i64.wrap ((d : Int) - 1) = ((d - 1 : Nat) : Int) := by rw [IntWalk.i64_in _ (by omega)]; omega
    have IHD := Lib.hid (IH.out (d - 1) (by omega) (by omega))
    have hpw : 2 ^ (d + 1) = 2 * 2 ^ (d - 1 + 1) := by rw [show d - 1 + 1 = d by omega, Nat.pow_succ]; omega
    have hpp : 1 ≤ 2 ^ (d - 1 + 1) := Nat.one_le_two_pow
    obtain ⟨PP, hPP⟩ : ∃ PP, 2 ^ (d - 1 + 1) = PP := ⟨_, rfl⟩
    rw [hPP] at hpw hpp IHD
    have HPW := Lib.hid (And.intro hpw hpp)
    obtain ⟨w2, hw2⟩ : ∃ w2, w1.alloc (.cells #[.int .i64 (1 + (r1 : Int)), .int .i64 0, .slice none 0 0] 28) = w2 := ⟨_, rfl⟩
    have b2 : Below w1.heap.size w1 w2 := by rw [← hw2]; exact (Below.refl _ _).alloc (Nat.le_refl _) _
    have q2 : w2.heap[w1.heap.size]? = some (.cells #[.int .i64 (1 + (r1 : Int)), .int .i64 0, .slice none 0 0] 28 (0, 0)) := by rw [← hw2]; exact heap_alloc_new _ _
    have l2 := lt_of_block q2
    have T2 := Lib.hid (T1.out.below b2)
    have O2 := Lib.hid (O1.out.trans (Oth.of_below b2))
    have Q2 := Lib.hid q2
    have HW2 := Lib.hid hw2
    clear hw2 b2 q2 hpw hpp hPP IH
    go_upto_region 5 with fail
    rw [HW2.out]
    clear HW2
    go_wp2_with fail
    refine (tapeI_next T 2 w2 (by omega) (by omega) T2.out).mono ?_
    rintro e w3 ⟨⟨r3, hr3, rfl⟩, T3', o3'⟩
    have hs3 := o3'.size
    have hw3 : IntKind.i64.wrap (1 + (r3 : Int)) = ((r3 + 1 : Nat) : Int) := by rw [IntWalk.i64_in _ (by omega)]; omega
    have I0 : Hid (MkI wa T w1.heap.size (w1.heap.size + 1) PP (1 + (r1 : Int)) [] none 0 [] w3) := Lib.hid ⟨o3'.heap Q2.out (by omega), ⟨by simp, .inl ⟨rfl, rfl⟩⟩, by rw [ORow], O2.out.trans o3', T3', by omega, by simp [Lfc.Ord.sizes], by simp [Lfc.Ord.mods]⟩
    clear T3' o3'
    obtain ⟨N, hN⟩ : ∃ N, r3 + 1 = N := ⟨_, rfl⟩
    rw [hN] at hw3
    go_upto_block 0 with fail
    go_wp2_with fail
    go_loopw [7] (fun i wr => ∃ (j : Nat) (os : List Lfc.Ord) (A : Option Addr) (c : Nat) (xs : List Value), j + os.length = N ∧ i = .int .i64 (j : Int) ∧ Hid (MkI wa T w1.heap.size (w1.heap.size + 1) PP (1 + (r1 : Int)) os A c xs wr)) (fun i _ => (intOf i).toNat)
    case atStart => exact ⟨N, [], none, 0, [], by simp, rfl, I0⟩
    case round =>
      clear I0
      obtain ⟨j, os, A, c, xs, hjn, rfl, HI⟩ := hrel
      have hsb := HI.out.size
      have hol : Hid (os.length = os.length) := Lib.hid rfl
      by_cases hj : j = 0
      · subst hj
        have hpt := ord_parts (lo := w.heap.size) (by omega) HI.out.own HI.out.row
        have HR := Lib.hid HI.out.r
        have hl : os.length = 1 ∨ os.length = 2 := by omega
        have hqw := HI.out.oth.heap QA.out (show w.heap.size ≠ T by omega)
        obtain ⟨u0, u1, u2⟩ := cells3o HI.out.r
        obtain ⟨s1, s2, s3, g1, g2, g3, ⟨p0, p1, p2⟩, ⟨f0, f1, f2⟩, hq, hot⟩ := oput3 hqw (.int .i64 (1 + (r1 : Int))) (.int .i64 0) (.slice A os.length c)
        have HQ := Lib.hid hq
        have HZ : Hid (MadeO w T (2 ^ (d + 1)) (.returned (.agg #[.int .i64 (1 + (r1 : Int)), .int .i64 0, .slice A os.length c])) s3) := Lib.hid (by
          refine ⟨⟨.node (1 + (r1 : Int)) 0 os, _, rfl, OrdVP.mk hpt.2 ?_, ?_, ?_⟩, HI.out.tape.oth (by omega) hot, ?_⟩
          · have hpt2 := ord_parts (lo := w1.heap.size) (by omega) HI.out.own HI.out.row
            refine hpt2.1.keep (fun b hb hlt => ?_) hot.size (fun b _ hb => by have hb : w1.heap.size ≤ b := hb; show w.heap.size ≤ b; omega)
            have hb : w1.heap.size ≤ b := hb
            exact hot.block b hlt (fun e => by have := Option.some.inj e; omega)
          · have h1 := HI.out.few
            have h2 := HPW.out.1
            have h3 := HPW.out.2
            simp only [Lfc.Ord.size]
            rcases hl with hl | hl
            · rw [hl] at h1; omega
            · rw [hl] at h1; omega
          · simp only [Lfc.Ord.mod, HI.out.mods, Bool.and_true, Bool.and_eq_true, decide_eq_true_eq]
            omega
          · refine Oth.of_new (OA.out.trans HI.out.oth) ⟨hot.os, hot.tape, hot.output, hot.size, fun b hb => hot.block b (by omega) (fun e => by have := Option.some.inj e; omega)⟩)
        clear hq hot hpt HI hqw hl hjn hol
        go_wp2_with fail
        refine bodyPost_ret (results_ord rfl _ _ _ _ _ _ rfl HQ.out) rfl ?_
        exact HZ.out
      · have hj1 : decide ((j : Int) > 0) = true := by rw [decide_eq_true_eq]; omega
        have hj2 : decide ((0 : Int) < (j : Int)) = true := by rw [decide_eq_true_eq]; omega
        have hjw : IntKind.i64.wrap ((j : Int) - 1) = ((j - 1 : Nat) : Int) := by rw [IntWalk.i64_in _ (by omega)]; omega
        have HR := Lib.hid HI.out.r
        have HOWN := Lib.hid HI.out.own
        have HROW := Lib.hid HI.out.row
        have HOX := Lib.hid HI.out.oth
        have TX := Lib.hid HI.out.tape
        have hbx := HI.out.size
        have hlo : os.length ≤ 2 := by omega
        have HFM := Lib.hid (And.intro HI.out.few HI.out.mods)
        have HJN := Lib.hid hjn
        obtain ⟨lo, hlo2⟩ : ∃ lo, os.length = lo := ⟨_, rfl⟩
        have hol := Lib.hid hlo2
        rw [hlo2] at HR HOWN HROW hlo
        have yx : wr.cell? ⟨w1.heap.size, 2, none⟩ = some (.slice A lo c) := Lib.cell_of_heap HR.out 2
        have hlm : lo + 1 ≤ maxLen := by unfold maxLen; omega
        have hl40 : (lo + 1) * 40 ≤ 140737488355328 := by omega
        have hrb : w1.heap.size < w1.heap.size + 1 := Nat.lt_succ_self _
        have hTr : T < w1.heap.size := by omega
        have hrT : w1.heap.size ≠ T := by omega
        have hTow : (Value.slice A lo c).ownBlock = some T → False := fun e => by have := (HOWN.out.lt _ e).1; omega
        have hwa3 : wa.heap.size ≤ w1.heap.size := hs1
        clear HI hlo2 hjn
        go_upto_region 8 with fail
        go_region_law (first
          | (go_simp; go_at_call 4; refine (IHD.out T _ (TX.out.below (Below.refl _ _).drew)).mono ?_; rintro e w9 ⟨⟨t9, v9, rfl, hv9, hz9, hm9⟩, T9, o9⟩; obtain ⟨k9, a9, ts9, ht9⟩ := ord_node t9; rw [ht9] at hv9; obtain ⟨A9, c9, rfl, hp9⟩ := hv9.open_; have q9 := o9.heap HR.out hrT; have y9 : w9.cell? ⟨w1.heap.size, 2, none⟩ = some (.slice A lo c) := Lib.cell_of_heap q9 2; have y9a : ∀ o, (w9.alloc o).cell? ⟨w1.heap.size, 2, none⟩ = some (.slice A lo c) := fun o => Lib.cell_of_heap ((Lib.alloc_old _ _ _ (lt_of_block q9)).trans q9) 2; have hown9 := HOWN.out.drew.kept o9 (Or.inr hTow); have hs9' : w1.heap.size + 1 ≤ w9.heap.size := Nat.le_trans hbx o9.size)
          | (refine step_append_own_at _ (by rfl) _ _ 26 (by rfl) (w1.heap.size + 1) 28 i0 (.agg #[.int .i64 0, .int .i64 0, .slice none 0 0]) 3 40 Try.underlying26 hi hz0 hz1 hz2 rfl (by decide) _ _ _ (by rfl) (hown9.alloc _) ⟨w9.heap.size, 0, none⟩ 1 1 [.int .i64 k9, .int .i64 a9, .slice A9 ts9.length c9] (by rfl) (by rfl) (fun j u h => ocells_new w9 _ rfl [.int .i64 k9, .int .i64 a9, .slice A9 ts9.length c9] _ j u h) oneCell3 hlm hl40 (oalloc_le hs9') ?_; intro v' w10 hown10 hg10 hloc10; obtain ⟨A10, c10, rfl⟩ := oform hown10; obtain ⟨hr10, hfin⟩ := ord_final (ts := os) hrb hTr hbx hwa3 HR.out (by rw [hol.out]; exact HOWN.out) HROW.out HOX.out o9 hp9 (by rw [hol.out]; exact hown10) hg10 (oalloc_loc hloc10); have y10 := (Lib.cell_of_heap hr10 2 : w10.cell? ⟨w1.heap.size, 2, none⟩ = some (.slice A lo c)); have f10 := Lib.frozen_of_heap hr10 2))
        all_goals
          obtain ⟨f1, f2, f3, f4, f5, f6, f7⟩ := hfin
          have HNX : Hid (MkI wa T w1.heap.size (w1.heap.size + 1) PP (1 + (r1 : Int)) (os ++ [t9]) A10 c10 (xs ++ [.int .i64 k9, .int .i64 a9, .slice A9 ts9.length c9]) (w10.setCell ⟨w1.heap.size, 2, none⟩ (.slice A10 (lo + 1) c10))) := Lib.hid (by
            have el : (os ++ [t9]).length = lo + 1 := by rw [List.length_append, hol.out]; rfl
            refine ⟨by rw [el]; exact f1, by rw [el]; rw [← ht9, el] at f2; exact f2, by rw [el, ht9]; exact f3, f4, T9.same (fun b hb => ?_), f5, ?_, ?_⟩
            · by_cases hbT : b = T
              · rw [hbT]; exact f7
              · rw [f6 b (by omega) (by omega) hbT]
                exact (o9.block b (by show b < wr.heap.size; omega) (fun e => hbT (Option.some.inj e))).symm
            · rw [el, Lfc.Ord.sizes_app]
              have h1 := HFM.out.1
              rw [hol.out] at h1
              simp only [Lfc.Ord.sizes]
              have h2 : (lo + 1) * PP = lo * PP + PP := Nat.succ_mul _ _
              omega
            · rw [Lfc.mods_app, HFM.out.2]
              simp only [Lfc.Ord.mods, hm9, Bool.and_true])
          have HJ2 : Hid (j - 1 + (os ++ [t9]).length = N) := Lib.hid (by
            have := HJN.out
            rw [List.length_append]
            simp only [List.length_singleton]
            omega)
          clear f1 f2 f3 f4 f5 f6 f7 hp9 o9 hown9 hown10 hg10 ht9 hz9 hm9 T9
          go_wp2_with fail
          go_roundw
          case rel => exact ⟨j - 1, os ++ [t9], A10, c10, _, HJ2.out, rfl, HNX⟩
          case measure => simp [intOf]; omega

end Go.Proofs.Ytadjpadieljjlaa
