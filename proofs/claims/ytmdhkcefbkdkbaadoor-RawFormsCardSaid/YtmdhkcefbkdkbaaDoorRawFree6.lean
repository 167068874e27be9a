/- The contract of Free. -/
import Derived.Test.YtmdhkcefbkdkbaaDoorRawFree5
import Derived.Test.YtmdhkcefbkdkbaaDoorRawFmt4
import Derived.Test.YtmdhkcefbkdkbaaDoorLex
set_option linter.unusedVariables false
set_option linter.unusedSimpArgs false
namespace Go.Proofs.YtmdhkcefbkdkbaaDoor
open Go.RowKit Go.Maps Go.WideMaps

theorem walk_upto (w0 : World) (b m : Nat) : WalkUpto w0 b m := by
  induction m with
  | zero => intro t v w out bound h _ _ _ _; have := t.size_pos; omega
  | succ m ih =>
    intro t v w out bound hsz hform hv h hl
    obtain ⟨k, n, p, ts⟩ := t
    simp only [Lfc.Raw.size] at hsz hl
    rw [Lfc.Raw.form, Bool.and_eq_true] at hform
    obtain ⟨hfd, hfs⟩ := hform
    have hk := formed_cases hfd
    by_cases h1 : k = 1 ∨ k = 2
    · have : ts = [] := List.length_eq_zero_iff.1 (by omega)
      subst this
      exact walk_leaf w0 b k p n h1 v w out bound hv h (by omega)
    by_cases h2 : k = 7 ∨ k = 8
    · match ts, (show ts.length = 1 ∨ ts.length = 2 by omega) with
      | [a], _ => exact walk_b1 w0 b m ih k p n h2 a (by omega) hfs v w out bound hv h (by omega)
      | [a, a'], _ => exact walk_b2 w0 b m ih k p n h2 a a' (by omega) hfs v w out bound hv h (by omega)
      | [], h0 => simp at h0
      | _ :: _ :: _ :: _, h0 => simp at h0
    exact walk_args w0 b m ih k p n (by omega) ts (by omega) hfs v w out bound hv h (by omega)

theorem freeEnv (w : World) : ∃ w6, (((((w.alloc (.cells #[.slice none 0 0] 38)).alloc (.cells #[.slice none 0 0] 38)).alloc (.map #[] 0)).alloc (.cells #[.map (some (w.heap.size + 1 + 1))] 80)).alloc
      (.cells #[.func (.func 63) #[] #[.pointer (some ⟨w.heap.size + 1 + 1 + 1, 0, none⟩), .pointer (some ⟨w.heap.size, 0, none⟩)]] 81)).alloc
      (.cells #[.func (.func 64) #[] #[.pointer (some ⟨w.heap.size + 1, 0, none⟩), .pointer (some ⟨w.heap.size + 1 + 1 + 1 + 1, 0, none⟩), .pointer (some ⟨w.heap.size + 1 + 1 + 1 + 1 + 1, 0, none⟩)]] 53) = w6 ∧
    FrI w w.heap.size [] [] [] w6 ∧ Below w.heap.size w w6 := by
  have hB := ((((((Below.refl w.heap.size w).alloc (Nat.le_refl _) (.cells #[.slice none 0 0] 38)).alloc (by simp) (.cells #[.slice none 0 0] 38)).alloc (by simp; omega) (.map #[] 0)).alloc (by simp; omega) (.cells #[.map (some (w.heap.size + 1 + 1))] 80)).alloc (by simp; omega) (.cells #[.func (.func 63) #[] #[.pointer (some ⟨w.heap.size + 1 + 1 + 1, 0, none⟩), .pointer (some ⟨w.heap.size, 0, none⟩)]] 81)).alloc (by simp; omega)
    (.cells #[.func (.func 64) #[] #[.pointer (some ⟨w.heap.size + 1, 0, none⟩), .pointer (some ⟨w.heap.size + 1 + 1 + 1 + 1, 0, none⟩), .pointer (some ⟨w.heap.size + 1 + 1 + 1 + 1 + 1, 0, none⟩)]] 53)
  have hn := fun (W : World) (o : Obj) (k : Nat) (h : k = W.heap.size) => (h ▸ heap_alloc_new W o : (W.alloc o).heap[k]? = some o)
  refine ⟨_, rfl, ⟨rfl, hB, ?_, ?_, ?_, ?_, ?_⟩, hB⟩
  · refine heap_alloc_old _ _ _ _ (heap_alloc_old _ _ _ _ (hn _ _ _ (by simp)))
  · refine heap_alloc_old _ _ _ _ (hn _ _ _ (by simp))
  · exact hn _ _ _ (by simp)
  · have := seen_made ((w.alloc (.cells #[.slice none 0 0] 38)).alloc (.cells #[.slice none 0 0] 38))
    obtain ⟨D, hm, hD⟩ := this
    refine ⟨D, ?_, hD⟩
    have e : ((w.alloc (.cells #[.slice none 0 0] 38)).alloc (.cells #[.slice none 0 0] 38)).heap.size = w.heap.size + 2 := by simp
    rw [e] at hm
    exact ((hm.alloc _).alloc _).alloc _
  · refine ⟨.slice none 0 0, .slice none 0 0, ?_, ?_, own_nil _ _ _ _, own_nil _ _ _ _, .inl rfl⟩
    · refine heap_alloc_old _ _ _ _ (heap_alloc_old _ _ _ _ (heap_alloc_old _ _ _ _ (heap_alloc_old _ _ _ _ (heap_alloc_old _ _ _ _ (heap_alloc_new _ _)))))
    · refine heap_alloc_old _ _ _ _ (heap_alloc_old _ _ _ _ (heap_alloc_old _ _ _ _ (heap_alloc_old _ _ _ _ (hn _ _ _ (by simp)))))
/-- The row of the names found, to be read. -/
theorem FrI.out_at {w0 w : World} {b : Nat} {sn out bound : List (List UInt8)} (h : FrI w0 b sn out bound w) : ∃ A c, w.cell? ⟨b, 0, none⟩ = some (.slice A out.length c) ∧ NamesAt w A out := by
  obtain ⟨vo, vb, h1, h2, h3, h4, h5⟩ := h.rows
  obtain ⟨A, c, rfl⟩ := own_form h3
  refine ⟨A, c, cell_of_one h1, fun hne => ?_⟩
  rcases h3.2 with ⟨_, h0⟩ | ⟨g, cap, cur, hv, hbg, hg, _, _, _, _⟩
  · omega
  · cases hv
    refine ⟨g, 0, rfl, lt_of_block hg, fun k hk => ?_⟩
    rw [Nat.zero_add, h3.cellAt k (by omega)]
    simp [nameCells, hk]

set_option maxRecDepth 100000 in
set_option maxHeartbeats 2000000 in
theorem free_any (t : Lfc.Raw) (v : Value) (w : World) (hmax : t.size ≤ 1000000000) (hv : TreeV w t v) :
    Calls Tryd.prog 35 #[v] w fun e w' => (∃ A c, e = .returned (.slice A t.freeN.length c) ∧ NamesAt w' A t.freeN) ∧ Below w.heap.size w w' := by
  have he := enters_walk
  obtain ⟨A, c, kd, nm, ps, ts, hT, rfl, hc, hA⟩ : ∃ A c kd nm ps ts, t = .node kd nm ps ts ∧ v = .agg #[.int .i64 kd, S nm, .int .i64 ps, .slice A ts.length c] ∧ ts.length ≤ c ∧ TreesAt w A ts := by
    obtain ⟨kd, nm, ps, ts⟩ := t
    obtain ⟨A, c, rfl, hc, hA⟩ := hv.open_
    exact ⟨A, c, kd, nm, ps, ts, rfl, rfl, hc, hA⟩
  clear hT hA
  obtain ⟨w1, hw1⟩ : ∃ w1, w.alloc (.cells #[.int .i64 kd, S nm, .int .i64 ps, .slice A ts.length c] 42) = w1 := ⟨_, rfl⟩
  have b01 : Below w.heap.size w w1 := by rw [← hw1]; exact (Below.refl _ _).alloc (Nat.le_refl _) _
  have s1 : w1.heap.size = w.heap.size + 1 := by rw [← hw1]; simp
  have hy0 : w1.cell? ⟨w.heap.size, 0, none⟩ = some (.int .i64 kd) := by rw [← hw1]; simp
  have hy1 : w1.cell? ⟨w.heap.size, 1, none⟩ = some (S nm) := by rw [← hw1]; simp
  have hy2 : w1.cell? ⟨w.heap.size, 2, none⟩ = some (.int .i64 ps) := by rw [← hw1]; simp
  have hy3 : w1.cell? ⟨w.heap.size, 3, none⟩ = some (.slice A ts.length c) := by rw [← hw1]; simp
  have HV := Lib.hid (hv.below b01)
  clear hv
  by_cases hz : t.wf = 0
  · have hf : t.freeN = Lfc.Raw.fr [] t [] := if_pos hz
    rw [hf]
    go_enter Tryd.func35, Tryd.ntmps35
    go_upto_region 1 with fail
    clear hw1
    go_wp2_with fail
    refine (wf_any t _ _ hmax HV.out).mono ?_
    rintro e w2 ⟨rfl, hb2⟩
    rw [hz]
    clear hf
    have hs2 := hb2.size
    obtain ⟨w4, hw4, hE, hb4⟩ := freeEnv w2
    have hmk : ∀ W : World, (Instr.makeMap 80 none).run Tryd.prog W = .ok (.map (some W.heap.size)) (W.alloc (.map #[] 0)) := fun W => rfl
    go_upto_region 8 with fail
    clear hw4
    have b4 : Below w1.heap.size w1 w4 := hb2.trans (hb4.mono hs2)
    have hz0 := (b4.cell (p := ⟨w.heap.size, 0, none⟩) (by simp only; omega)).trans hy0
    have hz1 := (b4.cell (p := ⟨w.heap.size, 1, none⟩) (by simp only; omega)).trans hy1
    have hz2 := (b4.cell (p := ⟨w.heap.size, 2, none⟩) (by simp only; omega)).trans hy2
    have hz3 := (b4.cell (p := ⟨w.heap.size, 3, none⟩) (by simp only; omega)).trans hy3
    clear hy0 hy1 hy2 hy3
    have hW := cell_of_one hE.wv
    obtain ⟨hfm, hsz, _⟩ := Lfc.wf_zero hz
    have HWr := Lib.hid (walk_upto w2 w2.heap.size t.size t _ w4 [] [] (Nat.le_refl _) hfm (HV.out.below hb2) hE (by simp only [List.length_nil]; omega))
    clear hE hz
    go_wp2_with fail
    refine HWr.out.mono ?_
    rintro e w5 ⟨rfl, hF5, hb5, _⟩
    obtain ⟨Ao, co, hco, hno⟩ := hF5.out_at
    have HF := Lib.hid hno
    clear hF5 hno
    go_wp2_with fail
    go_ret
    exact ⟨⟨_, _, rfl, HF.out⟩, b01.trans ((b4.mono (by omega)).trans (hb5.mono (by omega)))⟩
  · have hf : t.freeN = [] := if_neg hz
    rw [hf]
    have hg : (t.wf != 0) = true := by simpa using hz
    clear hf hz
    go_enter Tryd.func35, Tryd.ntmps35
    go_upto_region 1 with fail
    clear hw1
    go_wp2_with fail
    refine (wf_any t _ _ hmax HV.out).mono ?_
    rintro e w2 ⟨rfl, hb2⟩
    go_wp2_with fail
    go_ret
    exact ⟨⟨_, _, rfl, fun h => absurd h (by simp)⟩, b01.trans (hb2.mono (by omega))⟩
end Go.Proofs.YtmdhkcefbkdkbaaDoor
