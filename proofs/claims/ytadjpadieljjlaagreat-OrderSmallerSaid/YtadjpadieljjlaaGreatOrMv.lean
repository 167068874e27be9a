/- Contracts of moved of orders: the program's and the reference's. -/
import Derived.Test.YtadjpadieljjlaaGreatOrRow
import Derived.Deep.DrawnRows
import Derived.Deep.RegionLaw
import Derived.Deep.DeepCutAuto
import Derived.Deep.CutBlock
import Derived.RegionTactic
set_option linter.unusedVariables false
set_option linter.unusedSimpArgs false
namespace Go.Proofs.YtadjpadieljjlaaGreat
open Go.RowKit Go.Maps
attribute [local go_sem ↓] Go.wp_at_zero Go.wp_at_succ

theorem below_of_oth {T : Nat} {A B : World} (h : Oth T A B) (hT : B.heap[T]? = A.heap[T]?) : Below A.heap.size A B :=
  ⟨h.os, h.tape, h.output, h.size, fun b hb => by
    by_cases e : b = T
    · rw [e]; exact hT
    · exact h.block b hb (fun e' => e (Option.some.inj e'))⟩
theorem oput3 {W : World} {R : Nat} {a0 a1 a2 : Value} {t : TypeId} (h : W.heap[R]? = some (.cells #[a0, a1, a2] t (0, 0))) (v0 v1 v2 : Value) : ∃ s1 s2 s3, W.setCell ⟨R, 0, none⟩ v0 = s1 ∧ s1.setCell ⟨R, 1, none⟩ v1 = s2 ∧ s2.setCell ⟨R, 2, none⟩ v2 = s3 ∧
    (W.cell? ⟨R, 0, none⟩ = some a0 ∧ s1.cell? ⟨R, 1, none⟩ = some a1 ∧ s2.cell? ⟨R, 2, none⟩ = some a2) ∧
    (W.frozen? ⟨R, 0, none⟩ = false ∧ s1.frozen? ⟨R, 1, none⟩ = false ∧ s2.frozen? ⟨R, 2, none⟩ = false) ∧
    s3.heap[R]? = some (.cells #[v0, v1, v2] t (0, 0)) ∧ Oth R W s3 := by
  obtain ⟨s1, h1⟩ : ∃ s1, W.setCell ⟨R, 0, none⟩ v0 = s1 := ⟨_, rfl⟩
  obtain ⟨s2, h2⟩ : ∃ s2, s1.setCell ⟨R, 1, none⟩ v1 = s2 := ⟨_, rfl⟩
  obtain ⟨s3, h3⟩ : ∃ s3, s2.setCell ⟨R, 2, none⟩ v2 = s3 := ⟨_, rfl⟩
  have q1 : s1.heap[R]? = some (.cells #[v0, a1, a2] t (0, 0)) := by rw [← h1]; simp [World.setCell, Array.getElem?_modify, h]
  have q2 : s2.heap[R]? = some (.cells #[v0, v1, a2] t (0, 0)) := by rw [← h2]; simp [World.setCell, Array.getElem?_modify, q1]
  have q3 : s3.heap[R]? = some (.cells #[v0, v1, v2] t (0, 0)) := by rw [← h3]; simp [World.setCell, Array.getElem?_modify, q2]
  refine ⟨s1, s2, s3, h1, h2, h3, ⟨Lib.cell_of_heap h 0, Lib.cell_of_heap q1 1, Lib.cell_of_heap q2 2⟩, ⟨Lib.frozen_of_heap h 0, Lib.frozen_of_heap q1 1, Lib.frozen_of_heap q2 2⟩, q3, ?_⟩
  rw [← h3, ← h2, ← h1]
  exact ((Oth.set W v0).trans (Oth.set _ v1)).trans (Oth.set _ v2)
theorem ord_node (o : Lfc.Ord) : ∃ k a ts, o = .node k a ts := by
  cases o with
  | node k a ts => exact ⟨k, a, ts, rfl⟩
theorem oalloc_loc {w : World} {o : Obj} {v v' : Value} (h : v'.ownBlock = v.ownBlock ∨ v'.ownBlock = some (w.alloc o).heap.size) : v'.ownBlock = v.ownBlock ∨ v'.ownBlock = some (w.heap.size + 1) := by simpa using h
theorem oalloc_le {w : World} {o : Obj} {b : Nat} (h : b ≤ w.heap.size) : b ≤ (w.alloc o).heap.size := by simp; omega
theorem ocells_new (W : World) (n : Nat) (hn : n = W.heap.size) (xs : List Value) (e : TypeId) (j : Nat) (u : Value) (h : xs[j]? = some u) : (W.alloc (.cells xs.toArray e)).cell? ((⟨n, 0, none⟩ : Addr).add j) = some u := by
  subst hn
  rw [ocell_add, Lib.cell_of_heap (heap_alloc_new W _)]
  simpa using h
theorem oform {w : World} {base : Nat} {e : TypeId} {size n : Nat} {v : Value} {xs : List Value} (h : w.ownsRow base e size v n xs) : ∃ A c, v = .slice A n c := by
  rcases h.2 with ⟨rfl, rfl⟩ | ⟨g, cap, cur, rfl, _⟩
  · exact ⟨_, _, rfl⟩
  · exact ⟨_, _, rfl⟩
theorem oneCell3 {k a : Int} {A : Option Addr} {l c : Nat} : ∀ u ∈ [Value.int .i64 k, .int .i64 a, .slice A l c], u.oneCell' = true := by
  intro u hu
  simp at hu
  rcases hu with rfl | rfl | rfl <;> rfl

/-- The state of the loop: the order r in block R, its parts. -/
structure MvI (wa : World) (T R base : Nat) (k a : Int) (os : List Lfc.Ord) (A : Option Addr) (c : Nat) (xs : List Value) (wr : World) : Prop where
  r : wr.heap[R]? = some (.cells #[.int .i64 k, .int .i64 a, .slice A os.length c] 26 (0, 0))
  own : wr.ownsRow base 26 3 (.slice A os.length c) os.length xs
  row : ORow (fun b => base ≤ b ∧ some b ≠ (Value.slice A os.length c).ownBlock) wr os xs
  bel : Below wa.heap.size wa wr
  size : base ≤ wr.heap.size

set_option maxRecDepth 100000 in
set_option maxHeartbeats 8000000 in
theorem oMoved_upto (n : Int) (hn0 : -1000 ≤ n) (hn1 : n ≤ 1000) (m : Nat) (hmm : m ≤ 1000000) : ∀ (o : Lfc.Ord) (v : Value) (w : World), o.size ≤ m → o.mod 1000 = true → OrdV w o v →
    Calls Tryz.prog 57 #[v, .int .i64 n] w fun e w' => (∃ v', e = .returned v' ∧ OrdVP (fun b => w.heap.size ≤ b) w' (o.mv n) v') ∧ Below w.heap.size w w' := by
  induction m with
  | zero => intro o v w h _ _; have := o.size_pos; omega
  | succ m ih0 =>
    intro o v w hm hmod hv
    have ih := ih0 (by omega)
    clear ih0
    obtain ⟨kd, ar, ts⟩ := o
    obtain ⟨A0, c0, rfl, hc, hA⟩ := hv.open_
    simp only [Lfc.Ord.size] at hm
    rw [Lfc.Ord.mod, Bool.and_eq_true, Bool.and_eq_true, decide_eq_true_eq, decide_eq_true_eq] at hmod
    obtain ⟨⟨ha0, ha1⟩, hms⟩ := hmod
    have hlen := Lfc.Ord.sizes_len ts
    have IH := Lib.hid ih
    have HMS := Lib.hid (Lfc.mods_at 1000 ts hms)
    obtain ⟨i0, hi, hz0, hz1, hz2⟩ := ord_info
    obtain ⟨wb, hwb⟩ : ∃ wb, w.alloc (.cells #[.int .i64 kd, .int .i64 ar, .slice A0 ts.length c0] 26) = wb := ⟨_, rfl⟩
    obtain ⟨wa, hwa⟩ : ∃ wa, wb.alloc (.cells #[.int .i64 0, .int .i64 0, .slice none 0 0] 26) = wa := ⟨_, rfl⟩
    have bwb : Below w.heap.size w wb := by rw [← hwb]; exact (Below.refl _ _).alloc (Nat.le_refl _) _
    have bba : Below wb.heap.size wb wa := by rw [← hwa]; exact (Below.refl _ _).alloc (Nat.le_refl _) _
    have qb : wb.heap[w.heap.size]? = some (.cells #[.int .i64 kd, .int .i64 ar, .slice A0 ts.length c0] 26 (0, 0)) := by rw [← hwb]; exact heap_alloc_new _ _
    have qa : wa.heap[wb.heap.size]? = some (.cells #[.int .i64 0, .int .i64 0, .slice none 0 0] 26 (0, 0)) := by rw [← hwa]; exact heap_alloc_new _ _
    have lb := lt_of_block qb
    have la := lt_of_block qa
    have qba := (bba.block _ lb).trans qb
    have bwa : Below w.heap.size w wa := bwb.trans (bba.mono (by omega))
    have HWA := Lib.hid bwa
    have QB := Lib.hid qba
    have QA := Lib.hid qa
    have HA := Lib.hid (hA.below bwa)
    clear ih hv hA bwb bba qa qb qba bwa hms

    by_cases hk1 : kd = 1
    · subst hk1
      obtain ⟨wr1, hwr1⟩ : ∃ wr1, wa.alloc (.cells #[.int .i64 1, .int .i64 0, .slice none 0 0] 26) = wr1 := ⟨_, rfl⟩
      have b1 : Below wa.heap.size wa wr1 := by rw [← hwr1]; exact (Below.refl _ _).alloc (Nat.le_refl _) _
      have q1 : wr1.heap[wa.heap.size]? = some (.cells #[.int .i64 1, .int .i64 0, .slice none 0 0] 26 (0, 0)) := by rw [← hwr1]; exact heap_alloc_new _ _
      have s1 : wa.heap.size + 1 ≤ wr1.heap.size := by rw [← hwr1]; simp
      have HW1 := Lib.hid hwr1
      obtain ⟨wr0, hwr0⟩ : ∃ wr0, wr1.setCell ⟨wa.heap.size, 1, none⟩ (.int .i64 (ar + n)) = wr0 := ⟨_, rfl⟩
      have o0 : Oth wa.heap.size wr1 wr0 := by rw [← hwr0]; exact Oth.set _ _
      have b0 : Below wa.heap.size wa wr0 := Oth.below b1 o0 (by omega) (by omega)
      have q0 : wr0.heap[wa.heap.size]? = some (.cells #[.int .i64 1, .int .i64 (ar + n), .slice none 0 0] 26 (0, 0)) := by rw [← hwr0]; simp [World.setCell, Array.getElem?_modify, q1]
      have s0 : wa.heap.size + 1 ≤ wr0.heap.size := Nat.le_trans s1 o0.size
      have HW0 := Lib.hid hwr0
      have I0 : Hid (MvI wa w.heap.size wa.heap.size (wa.heap.size + 1) 1 (ar + n) (Lfc.Ord.mvs n (ts.take 0)) none 0 [] wr0) := Lib.hid ⟨q0, ⟨by simp [Lfc.Ord.mvs], .inl ⟨rfl, rfl⟩⟩, by rw [List.take_zero, Lfc.Ord.mvs, ORow], b0, s0⟩
      have Y1 := Lib.hid (show wr1.heap[w.heap.size]? = some (.cells #[.int .i64 1, .int .i64 ar, .slice A0 ts.length c0] 26 (0, 0)) from (b1.block _ (by omega)).trans QB.out)
      have Q1 := Lib.hid q1
      obtain ⟨y0, y1, y2⟩ := cells3o QB.out
      clear b0 q0 s0 hwr0 b1 q1 s1 hwr1 o0
      have hwn : IntKind.i64.wrap (ar + n) = ar + n := IntWalk.i64_in _ (by omega)
      go_enter Tryz.func57, Tryz.ntmps57
      go_upto_region 2 with fail
      rw [HW1.out]
      clear HW1 y0 y1 y2 hwa hwb
      obtain ⟨y0, y1, y2⟩ := cells3o Y1.out
      have z1 := Lib.cell_of_heap Q1.out 1
      have f1 := Lib.frozen_of_heap Q1.out 1
      go_upto_region 4 with fail
      rw [HW0.out]
      clear HW0 y0 y1 y2 z1 f1 Y1 Q1
      obtain ⟨y0, y1, y2⟩ := cells3o ((I0.out.bel.block _ (by omega)).trans QB.out)
      go_wp2_with fail
      go_loopw [22] (fun i wr => ∃ (k : Nat) (A : Option Addr) (c : Nat) (xs : List Value), k ≤ ts.length ∧ i = .int .i64 k ∧ Hid (MvI wa w.heap.size wa.heap.size (wa.heap.size + 1) 1 (ar + n) (Lfc.Ord.mvs n (ts.take k)) A c xs wr)) (fun i _ => ts.length - (intOf i).toNat)
      case atStart => exact ⟨0, none, 0, [], Nat.zero_le _, rfl, I0⟩
      case round =>
        clear y0 y1 y2 I0
        obtain ⟨k, A, c, xs, hk, rfl, HI⟩ := hrel
        have hol : (Lfc.Ord.mvs n (ts.take k)).length = k := by rw [Lfc.mvs_length, List.length_take]; omega
        have hsw := HI.out.bel.size
        have hsb := HI.out.size
        obtain ⟨y0, y1, y2⟩ := cells3o ((HI.out.bel.block _ (by omega)).trans QB.out)
        by_cases hlt : k < ts.length
        · obtain ⟨b, o, k1, a1, us, B, c1, rfl, hb, ht, d0, d1, d2, hcu, hB, hT⟩ := (HA.out.below HI.out.bel).at_ hlt
          have hmem := Lfc.Ord.sizes_mem ts ts[k] (List.getElem_mem _)
          have HMK := Lib.hid (HMS.out k hlt)
          have HTK := Lib.hid (Lfc.mvs_take n ts k hlt)
          have hi0 : (0 : Int) ≤ (k : Int) := Int.natCast_nonneg _
          have hi1 : (k : Int) < (ts.length : Int) := by omega
          clear hB ht
          obtain ⟨wx, hwx⟩ : ∃ wx, wr.alloc (.cells #[.int .i64 k1, .int .i64 a1, .slice B us.length c1] 26) = wx := ⟨_, rfl⟩
          have bx : Below wr.heap.size wr wx := by rw [← hwx]; exact (Below.refl _ _).alloc (Nat.le_refl _) _
          have qx : wx.heap[wr.heap.size]? = some (.cells #[.int .i64 k1, .int .i64 a1, .slice B us.length c1] 26 (0, 0)) := by rw [← hwx]; exact heap_alloc_new _ _
          have hsx := bx.size
          have HWX := Lib.hid hwx
          have IX := Lib.hid (show MvI wa w.heap.size wa.heap.size (wa.heap.size + 1) 1 (ar + n) (Lfc.Ord.mvs n (ts.take k)) A c xs wx from ⟨(bx.block _ (lt_of_block HI.out.r)).trans HI.out.r, by rw [← hwx]; exact HI.out.own.alloc _, HI.out.row.keep (fun b _ hlt => bx.block b hlt) bx.size (fun _ _ h => h), HI.out.bel.trans (bx.mono hsw), Nat.le_trans hsb bx.size⟩)
          have hT2 := Lib.hid (hT.below (bx.trans ((Below.refl _ _).drew.mono bx.size)))
          obtain ⟨x0, x1, x2⟩ := cells3o qx
          clear hwx qx hT bx
          obtain ⟨os, hos⟩ : ∃ os, Lfc.Ord.mvs n (ts.take k) = os := ⟨_, rfl⟩
          rw [hos] at IX HTK hol
          have HR := Lib.hid IX.out.r
          have HOWN := Lib.hid IX.out.own
          have HROW := Lib.hid IX.out.row
          have HOX : Hid (Oth w.heap.size wa wx) := Lib.hid (Oth.of_below IX.out.bel)
          have HBX := Lib.hid IX.out.bel
          have hbx := IX.out.size
          rw [hol] at HR HOWN HROW
          have yx : wx.cell? ⟨wa.heap.size, 2, none⟩ = some (.slice A k c) := Lib.cell_of_heap HR.out 2
          have hlm : k + 1 ≤ maxLen := by unfold maxLen; omega
          have hl40 : (k + 1) * 40 ≤ 140737488355328 := by omega
          have hrb : wa.heap.size < wa.heap.size + 1 := Nat.lt_succ_self _
          have hTr : w.heap.size < wa.heap.size := by omega
          have hTow : (Value.slice A k c).ownBlock = some w.heap.size → False := fun e => by have := (HOWN.out.lt _ e).1; omega
          have hlx := lt_of_block HR.out
          go_upto_region 7 with fail
          rw [HWX.out]
          clear hos HI IX
          go_region_law (first
      | (go_simp; go_at_call 57; refine (IH.out ts[k] _ wx.drew (by omega) HMK.out hT2.out).mono ?_; rintro e w9 ⟨⟨v9, rfl, hv9⟩, b9⟩; obtain ⟨k9, a9, ts9, ht9⟩ := ord_node (ts[k].mv n); rw [ht9] at hv9; obtain ⟨A9, c9, rfl, hp9⟩ := hv9.open_; have o9 : Oth w.heap.size wx.drew w9 := Oth.of_below b9; have q9 := (b9.block _ hlx).trans HR.out; have y9 : w9.cell? ⟨wa.heap.size, 2, none⟩ = some (.slice A k c) := Lib.cell_of_heap q9 2; have y9a : ∀ o, (w9.alloc o).cell? ⟨wa.heap.size, 2, none⟩ = some (.slice A k c) := fun o => Lib.cell_of_heap ((Lib.alloc_old _ _ _ (lt_of_block q9)).trans q9) 2; have hown9 := HOWN.out.drew.kept o9 (Or.inr hTow); have hs9' : wa.heap.size + 1 ≤ w9.heap.size := Nat.le_trans hbx b9.size)
      | (refine step_append_own_at _ (by rfl) _ _ 24 (by rfl) (wa.heap.size + 1) 26 i0 (.agg #[.int .i64 0, .int .i64 0, .slice none 0 0]) 3 40 Tryz.underlying24 hi hz0 hz1 hz2 rfl (by decide) _ _ _ (by rfl) (hown9.alloc _) ⟨w9.heap.size, 0, none⟩ 1 1 [.int .i64 k9, .int .i64 a9, .slice A9 ts9.length c9] (by rfl) (by rfl) (fun j u h => ocells_new w9 _ rfl [.int .i64 k9, .int .i64 a9, .slice A9 ts9.length c9] _ j u h) oneCell3 hlm hl40 (oalloc_le hs9') ?_; intro v' w10 hown10 hg10 hloc10; obtain ⟨A10, c10, rfl⟩ := oform hown10; obtain ⟨hr10, hfin⟩ := ord_final (ts := os) hrb hTr hbx (Nat.le_refl _) HR.out (by rw [hol]; exact HOWN.out) HROW.out HOX.out o9 hp9 (by rw [hol]; exact hown10) hg10 (oalloc_loc hloc10); have y10 := (Lib.cell_of_heap hr10 2 : w10.cell? ⟨wa.heap.size, 2, none⟩ = some (.slice A k c)); have f10 := Lib.frozen_of_heap hr10 2))
          all_goals
            obtain ⟨f1, f2, f3, f4, f5, f6, f7⟩ := hfin
            have HNX : Hid (MvI wa w.heap.size wa.heap.size (wa.heap.size + 1) 1 (ar + n) (Lfc.Ord.mvs n (ts.take (k + 1))) A10 c10 (xs ++ [.int .i64 k9, .int .i64 a9, .slice A9 ts9.length c9]) (w10.setCell ⟨wa.heap.size, 2, none⟩ (.slice A10 (k + 1) c10))) := Lib.hid (by
              rw [HTK.out, ht9]
              have el : (os ++ [Lfc.Ord.node k9 a9 ts9]).length = k + 1 := by rw [List.length_append, hol]; rfl
              refine ⟨by rw [el]; exact f1, by rw [el]; rw [el] at f2; exact f2, by rw [el]; exact f3, below_of_oth f4 ?_, f5⟩
              rw [f7, b9.block _ (by show w.heap.size < wx.heap.size; omega)]
              exact HBX.out.block _ (by omega))
            clear f1 f2 f3 f4 f5 f6 f7 hp9 b9 o9 hown9 hown10 hg10 ht9
            go_wp2_with fail
            go_roundw
            case rel => exact ⟨k + 1, A10, c10, _, by omega, by go_num, HNX⟩
            case measure => simp [intOf]; omega
        · obtain rfl : k = ts.length := by omega
          rw [List.take_length] at HI hol
          have hpt := ord_parts (lo := w.heap.size) (by omega) HI.out.own HI.out.row
          rw [hol] at hpt
          have HR := Lib.hid HI.out.r
          rw [hol] at HR
          obtain ⟨u0, u1, u2⟩ := cells3o HR.out
          have hq4 := (HI.out.bel.block _ la).trans QA.out
          obtain ⟨s1, s2, s3, g1, g2, g3, ⟨p0, p1, p2⟩, ⟨f0, f1, f2⟩, hq, hot⟩ := oput3 hq4 (.int .i64 1) (.int .i64 (ar + n)) (.slice A ts.length c)
          have HQ := Lib.hid hq
          have HBF : Hid (Below w.heap.size w s3) := Lib.hid (Oth.below (HWA.out.trans (HI.out.bel.mono HWA.out.size)) hot (by omega) (by omega))
          have HPT : Hid (OrdsAtP (fun b => w.heap.size ≤ b) s3 A (Lfc.Ord.mvs n ts)) := Lib.hid (by
            have hpt2 := ord_parts (lo := wa.heap.size) (by omega) HI.out.own HI.out.row
            refine hpt2.1.keep (fun b hb hlt => ?_) hot.size (fun b _ hb => by have hb : wa.heap.size ≤ b := hb; show w.heap.size ≤ b; omega)
            have hb : wa.heap.size ≤ b := hb
            exact hot.block b hlt (fun e => by have := Option.some.inj e; omega))
          have HCC := Lib.hid hpt.2
          have HLL : Hid ((Lfc.Ord.mvs n ts).length = ts.length) := Lib.hid (Lfc.mvs_length n ts)
          clear hq hot hpt HI hq4
          go_wp2_with fail
          refine bodyPost_ret (results_ord rfl _ _ _ _ _ _ rfl HQ.out) rfl ?_
          refine ⟨⟨_, rfl, ?_⟩, HBF.out⟩
          have e : (Lfc.Ord.node 1 ar ts).mv n = .node 1 (ar + n) (Lfc.Ord.mvs n ts) := by rw [Lfc.Ord.mv, if_pos rfl]
          rw [e]
          have h := OrdVP.mk (k := 1) (a := (ar + n)) (A := A) (c := c) (by rw [HLL.out]; exact HCC.out) HPT.out
          rw [HLL.out] at h
          exact h
    · have hk1f : (kd == 1) = false := by simpa using hk1
      obtain ⟨wr1, hwr1⟩ : ∃ wr1, wa.alloc (.cells #[.int .i64 kd, .int .i64 0, .slice none 0 0] 26) = wr1 := ⟨_, rfl⟩
      have b1 : Below wa.heap.size wa wr1 := by rw [← hwr1]; exact (Below.refl _ _).alloc (Nat.le_refl _) _
      have q1 : wr1.heap[wa.heap.size]? = some (.cells #[.int .i64 kd, .int .i64 0, .slice none 0 0] 26 (0, 0)) := by rw [← hwr1]; exact heap_alloc_new _ _
      have s1 : wa.heap.size + 1 ≤ wr1.heap.size := by rw [← hwr1]; simp
      have HW1 := Lib.hid hwr1
      obtain ⟨wr0, hwr0⟩ : ∃ wr0, wr1 = wr0 := ⟨_, rfl⟩
      have b0 : Below wa.heap.size wa wr0 := hwr0 ▸ b1
      have q0 : wr0.heap[wa.heap.size]? = some (.cells #[.int .i64 kd, .int .i64 0, .slice none 0 0] 26 (0, 0)) := hwr0 ▸ q1
      have s0 : wa.heap.size + 1 ≤ wr0.heap.size := hwr0 ▸ s1
      have I0 : Hid (MvI wa w.heap.size wa.heap.size (wa.heap.size + 1) kd 0 (Lfc.Ord.mvs n (ts.take 0)) none 0 [] wr0) := Lib.hid ⟨q0, ⟨by simp [Lfc.Ord.mvs], .inl ⟨rfl, rfl⟩⟩, by rw [List.take_zero, Lfc.Ord.mvs, ORow], b0, s0⟩
      have Y1 := Lib.hid (show wr1.heap[w.heap.size]? = some (.cells #[.int .i64 kd, .int .i64 ar, .slice A0 ts.length c0] 26 (0, 0)) from (b1.block _ (by omega)).trans QB.out)
      have Q1 := Lib.hid q1
      obtain ⟨y0, y1, y2⟩ := cells3o QB.out
      have HE := Lib.hid hwr0
      clear b0 q0 s0 hwr0 b1 q1 s1 hwr1
      go_enter Tryz.func57, Tryz.ntmps57
      go_upto_region 2 with fail
      rw [HW1.out]
      clear HW1 y0 y1 y2 hwa hwb
      obtain ⟨y0, y1, y2⟩ := cells3o Y1.out
      go_upto_region 4 with fail
      clear Y1 Q1
      rw [HE.out] at y0 y1 y2 ⊢
      clear HE
      go_wp2_with fail
      go_loopw [22] (fun i wr => ∃ (k : Nat) (A : Option Addr) (c : Nat) (xs : List Value), k ≤ ts.length ∧ i = .int .i64 k ∧ Hid (MvI wa w.heap.size wa.heap.size (wa.heap.size + 1) kd 0 (Lfc.Ord.mvs n (ts.take k)) A c xs wr)) (fun i _ => ts.length - (intOf i).toNat)
      case atStart => exact ⟨0, none, 0, [], Nat.zero_le _, rfl, I0⟩
      case round =>
        clear y0 y1 y2 I0
        obtain ⟨k, A, c, xs, hk, rfl, HI⟩ := hrel
        have hol : (Lfc.Ord.mvs n (ts.take k)).length = k := by rw [Lfc.mvs_length, List.length_take]; omega
        have hsw := HI.out.bel.size
        have hsb := HI.out.size
        obtain ⟨y0, y1, y2⟩ := cells3o ((HI.out.bel.block _ (by omega)).trans QB.out)
        by_cases hlt : k < ts.length
        · obtain ⟨b, o, k1, a1, us, B, c1, rfl, hb, ht, d0, d1, d2, hcu, hB, hT⟩ := (HA.out.below HI.out.bel).at_ hlt
          have hmem := Lfc.Ord.sizes_mem ts ts[k] (List.getElem_mem _)
          have HMK := Lib.hid (HMS.out k hlt)
          have HTK := Lib.hid (Lfc.mvs_take n ts k hlt)
          have hi0 : (0 : Int) ≤ (k : Int) := Int.natCast_nonneg _
          have hi1 : (k : Int) < (ts.length : Int) := by omega
          clear hB ht
          obtain ⟨wx, hwx⟩ : ∃ wx, wr.alloc (.cells #[.int .i64 k1, .int .i64 a1, .slice B us.length c1] 26) = wx := ⟨_, rfl⟩
          have bx : Below wr.heap.size wr wx := by rw [← hwx]; exact (Below.refl _ _).alloc (Nat.le_refl _) _
          have qx : wx.heap[wr.heap.size]? = some (.cells #[.int .i64 k1, .int .i64 a1, .slice B us.length c1] 26 (0, 0)) := by rw [← hwx]; exact heap_alloc_new _ _
          have hsx := bx.size
          have HWX := Lib.hid hwx
          have IX := Lib.hid (show MvI wa w.heap.size wa.heap.size (wa.heap.size + 1) kd 0 (Lfc.Ord.mvs n (ts.take k)) A c xs wx from ⟨(bx.block _ (lt_of_block HI.out.r)).trans HI.out.r, by rw [← hwx]; exact HI.out.own.alloc _, HI.out.row.keep (fun b _ hlt => bx.block b hlt) bx.size (fun _ _ h => h), HI.out.bel.trans (bx.mono hsw), Nat.le_trans hsb bx.size⟩)
          have hT2 := Lib.hid (hT.below (bx.trans ((Below.refl _ _).drew.mono bx.size)))
          obtain ⟨x0, x1, x2⟩ := cells3o qx
          clear hwx qx hT bx
          obtain ⟨os, hos⟩ : ∃ os, Lfc.Ord.mvs n (ts.take k) = os := ⟨_, rfl⟩
          rw [hos] at IX HTK hol
          have HR := Lib.hid IX.out.r
          have HOWN := Lib.hid IX.out.own
          have HROW := Lib.hid IX.out.row
          have HOX : Hid (Oth w.heap.size wa wx) := Lib.hid (Oth.of_below IX.out.bel)
          have HBX := Lib.hid IX.out.bel
          have hbx := IX.out.size
          rw [hol] at HR HOWN HROW
          have yx : wx.cell? ⟨wa.heap.size, 2, none⟩ = some (.slice A k c) := Lib.cell_of_heap HR.out 2
          have hlm : k + 1 ≤ maxLen := by unfold maxLen; omega
          have hl40 : (k + 1) * 40 ≤ 140737488355328 := by omega
          have hrb : wa.heap.size < wa.heap.size + 1 := Nat.lt_succ_self _
          have hTr : w.heap.size < wa.heap.size := by omega
          have hTow : (Value.slice A k c).ownBlock = some w.heap.size → False := fun e => by have := (HOWN.out.lt _ e).1; omega
          have hlx := lt_of_block HR.out
          go_upto_region 7 with fail
          rw [HWX.out]
          clear hos HI IX
          go_region_law (first
      | (go_simp; go_at_call 57; refine (IH.out ts[k] _ wx.drew (by omega) HMK.out hT2.out).mono ?_; rintro e w9 ⟨⟨v9, rfl, hv9⟩, b9⟩; obtain ⟨k9, a9, ts9, ht9⟩ := ord_node (ts[k].mv n); rw [ht9] at hv9; obtain ⟨A9, c9, rfl, hp9⟩ := hv9.open_; have o9 : Oth w.heap.size wx.drew w9 := Oth.of_below b9; have q9 := (b9.block _ hlx).trans HR.out; have y9 : w9.cell? ⟨wa.heap.size, 2, none⟩ = some (.slice A k c) := Lib.cell_of_heap q9 2; have y9a : ∀ o, (w9.alloc o).cell? ⟨wa.heap.size, 2, none⟩ = some (.slice A k c) := fun o => Lib.cell_of_heap ((Lib.alloc_old _ _ _ (lt_of_block q9)).trans q9) 2; have hown9 := HOWN.out.drew.kept o9 (Or.inr hTow); have hs9' : wa.heap.size + 1 ≤ w9.heap.size := Nat.le_trans hbx b9.size)
      | (refine step_append_own_at _ (by rfl) _ _ 24 (by rfl) (wa.heap.size + 1) 26 i0 (.agg #[.int .i64 0, .int .i64 0, .slice none 0 0]) 3 40 Tryz.underlying24 hi hz0 hz1 hz2 rfl (by decide) _ _ _ (by rfl) (hown9.alloc _) ⟨w9.heap.size, 0, none⟩ 1 1 [.int .i64 k9, .int .i64 a9, .slice A9 ts9.length c9] (by rfl) (by rfl) (fun j u h => ocells_new w9 _ rfl [.int .i64 k9, .int .i64 a9, .slice A9 ts9.length c9] _ j u h) oneCell3 hlm hl40 (oalloc_le hs9') ?_; intro v' w10 hown10 hg10 hloc10; obtain ⟨A10, c10, rfl⟩ := oform hown10; obtain ⟨hr10, hfin⟩ := ord_final (ts := os) hrb hTr hbx (Nat.le_refl _) HR.out (by rw [hol]; exact HOWN.out) HROW.out HOX.out o9 hp9 (by rw [hol]; exact hown10) hg10 (oalloc_loc hloc10); have y10 := (Lib.cell_of_heap hr10 2 : w10.cell? ⟨wa.heap.size, 2, none⟩ = some (.slice A k c)); have f10 := Lib.frozen_of_heap hr10 2))
          all_goals
            obtain ⟨f1, f2, f3, f4, f5, f6, f7⟩ := hfin
            have HNX : Hid (MvI wa w.heap.size wa.heap.size (wa.heap.size + 1) kd 0 (Lfc.Ord.mvs n (ts.take (k + 1))) A10 c10 (xs ++ [.int .i64 k9, .int .i64 a9, .slice A9 ts9.length c9]) (w10.setCell ⟨wa.heap.size, 2, none⟩ (.slice A10 (k + 1) c10))) := Lib.hid (by
              rw [HTK.out, ht9]
              have el : (os ++ [Lfc.Ord.node k9 a9 ts9]).length = k + 1 := by rw [List.length_append, hol]; rfl
              refine ⟨by rw [el]; exact f1, by rw [el]; rw [el] at f2; exact f2, by rw [el]; exact f3, below_of_oth f4 ?_, f5⟩
              rw [f7, b9.block _ (by show w.heap.size < wx.heap.size; omega)]
              exact HBX.out.block _ (by omega))
            clear f1 f2 f3 f4 f5 f6 f7 hp9 b9 o9 hown9 hown10 hg10 ht9
            go_wp2_with fail
            go_roundw
            case rel => exact ⟨k + 1, A10, c10, _, by omega, by go_num, HNX⟩
            case measure => simp [intOf]; omega
        · obtain rfl : k = ts.length := by omega
          rw [List.take_length] at HI hol
          have hpt := ord_parts (lo := w.heap.size) (by omega) HI.out.own HI.out.row
          rw [hol] at hpt
          have HR := Lib.hid HI.out.r
          rw [hol] at HR
          obtain ⟨u0, u1, u2⟩ := cells3o HR.out
          have hq4 := (HI.out.bel.block _ la).trans QA.out
          obtain ⟨s1, s2, s3, g1, g2, g3, ⟨p0, p1, p2⟩, ⟨f0, f1, f2⟩, hq, hot⟩ := oput3 hq4 (.int .i64 kd) (.int .i64 0) (.slice A ts.length c)
          have HQ := Lib.hid hq
          have HBF : Hid (Below w.heap.size w s3) := Lib.hid (Oth.below (HWA.out.trans (HI.out.bel.mono HWA.out.size)) hot (by omega) (by omega))
          have HPT : Hid (OrdsAtP (fun b => w.heap.size ≤ b) s3 A (Lfc.Ord.mvs n ts)) := Lib.hid (by
            have hpt2 := ord_parts (lo := wa.heap.size) (by omega) HI.out.own HI.out.row
            refine hpt2.1.keep (fun b hb hlt => ?_) hot.size (fun b _ hb => by have hb : wa.heap.size ≤ b := hb; show w.heap.size ≤ b; omega)
            have hb : wa.heap.size ≤ b := hb
            exact hot.block b hlt (fun e => by have := Option.some.inj e; omega))
          have HCC := Lib.hid hpt.2
          have HLL : Hid ((Lfc.Ord.mvs n ts).length = ts.length) := Lib.hid (Lfc.mvs_length n ts)
          clear hq hot hpt HI hq4
          go_wp2_with fail
          refine bodyPost_ret (results_ord rfl _ _ _ _ _ _ rfl HQ.out) rfl ?_
          refine ⟨⟨_, rfl, ?_⟩, HBF.out⟩
          have e : (Lfc.Ord.node kd ar ts).mv n = .node kd 0 (Lfc.Ord.mvs n ts) := by rw [Lfc.Ord.mv, if_neg hk1]
          rw [e]
          have h := OrdVP.mk (k := kd) (a := 0) (A := A) (c := c) (by rw [HLL.out]; exact HCC.out) HPT.out
          rw [HLL.out] at h
          exact h

end Go.Proofs.YtadjpadieljjlaaGreat
