/- The contract of Format. -/
import Derived.Test.YtmdhkcefbkdkbaaDoorRawFmt3
set_option linter.unusedVariables false
set_option linter.unusedSimpArgs false
namespace Lfc
def Raw.fmt (q : List (List UInt8)) (t : Raw) : List UInt8 := if t.wf = 0 then t.text q else []
theorem wf_zero {t : Raw} (h : t.wf = 0) : t.form = true ∧ t.size ≤ 4096 ∧ t.depth ≤ 128 := by
  unfold Raw.wf at h
  split at h
  · cases h
  · rename_i h1
    split at h
    · cases h
    · rename_i h2
      exact ⟨by simpa using h1, by omega, by omega⟩
end Lfc
namespace Go.Proofs.YtmdhkcefbkdkbaaDoor
open Go.RowKit

theorem heap_alloc_old (w : World) (o : Obj) (k : Nat) (x : Obj) (h : w.heap[k]? = some x) : (w.alloc o).heap[k]? = some x :=
  (Lib.alloc_old w o k (lt_of_block h)).trans h

theorem fmtEnv (w : World) (Bq : Nat) : ∃ w4, (((w.alloc (.cells #[.pointer none, .slice none 0 0] 70)).alloc
      (.cells #[.func (.func 59) #[] #[.pointer (some ⟨Bq, 0, none⟩), .pointer (some ⟨w.heap.size, 0, none⟩), .pointer (some ⟨w.heap.size + 1 + 1, 0, none⟩), .pointer (some ⟨w.heap.size + 1 + 1 + 1, 0, none⟩)]] 53)).alloc
      (.cells #[.func (.func 56) #[] #[.pointer (some ⟨w.heap.size, 0, none⟩), .pointer (some ⟨w.heap.size + 1, 0, none⟩)]] 75)).alloc
      (.cells #[.func (.func 58) #[] #[.pointer (some ⟨w.heap.size, 0, none⟩), .pointer (some ⟨w.heap.size + 1 + 1, 0, none⟩)]] 76) = w4 ∧
    EnvF w w.heap.size Bq w4 ∧ Bld w.heap.size w.heap.size [] w4 ∧ Below w.heap.size w w4 ∧ w4.heap.size = w.heap.size + 4 := by
  refine ⟨_, rfl, ⟨rfl, ?_, ?_, ?_, ?_⟩, ?_, ?_, by simp⟩
  · exact ((((Below.refl _ _).alloc (Nat.le_refl _) _).alloc (by simp) _).alloc (by simp; omega) _).alloc (by simp; omega) _
  · refine heap_alloc_old _ _ _ _ (heap_alloc_old _ _ _ _ ?_)
    have := heap_alloc_new (w.alloc (.cells #[.pointer none, .slice none 0 0] 70)) (.cells #[.func (.func 59) #[] #[.pointer (some ⟨Bq, 0, none⟩), .pointer (some ⟨w.heap.size, 0, none⟩), .pointer (some ⟨w.heap.size + 1 + 1, 0, none⟩), .pointer (some ⟨w.heap.size + 1 + 1 + 1, 0, none⟩)]] 53)
    simpa using this
  · refine heap_alloc_old _ _ _ _ ?_
    have := fun W : World => heap_alloc_new W (.cells #[.func (.func 56) #[] #[.pointer (some ⟨w.heap.size, 0, none⟩), .pointer (some ⟨w.heap.size + 1, 0, none⟩)]] 75)
    have h2 := this ((w.alloc (.cells #[.pointer none, .slice none 0 0] 70)).alloc
      (.cells #[.func (.func 59) #[] #[.pointer (some ⟨Bq, 0, none⟩), .pointer (some ⟨w.heap.size, 0, none⟩), .pointer (some ⟨w.heap.size + 1 + 1, 0, none⟩), .pointer (some ⟨w.heap.size + 1 + 1 + 1, 0, none⟩)]] 53))
    simpa using h2
  · have := fun W : World => heap_alloc_new W (.cells #[.func (.func 58) #[] #[.pointer (some ⟨w.heap.size, 0, none⟩), .pointer (some ⟨w.heap.size + 1 + 1, 0, none⟩)]] 76)
    have h2 := this (((w.alloc (.cells #[.pointer none, .slice none 0 0] 70)).alloc
      (.cells #[.func (.func 59) #[] #[.pointer (some ⟨Bq, 0, none⟩), .pointer (some ⟨w.heap.size, 0, none⟩), .pointer (some ⟨w.heap.size + 1 + 1, 0, none⟩), .pointer (some ⟨w.heap.size + 1 + 1 + 1, 0, none⟩)]] 53)).alloc
      (.cells #[.func (.func 56) #[] #[.pointer (some ⟨w.heap.size, 0, none⟩), .pointer (some ⟨w.heap.size + 1, 0, none⟩)]] 75))
    simpa using h2
  · exact (((bld_new w).alloc _).alloc _).alloc _
  · exact ((((Below.refl _ _).alloc (Nat.le_refl _) _).alloc (by simp) _).alloc (by simp; omega) _).alloc (by simp; omega) _

set_option maxRecDepth 100000 in
set_option maxHeartbeats 2000000 in
theorem format_any (t : Lfc.Raw) (v : Value) (q : List (List UInt8)) (Aq : Option Addr) (cq : Nat) (w : World) (hmax : t.size ≤ 1000000000) (hv : TreeV w t v) (hql : q.length ≤ 1000000000) (hq : NamesAt w Aq q) :
    Calls Tryd.prog 32 #[v, .slice Aq q.length cq] w fun e w' => e = .returned (S (t.fmt q)) ∧ Below w.heap.size w w' := by
  have he := enters_write
  have hshort := hv.short
  obtain ⟨A, c, kd, nm, ps, ts, hT, rfl, hc, hA⟩ : ∃ A c kd nm ps ts, t = .node kd nm ps ts ∧ v = .agg #[.int .i64 kd, S nm, .int .i64 ps, .slice A ts.length c] ∧ ts.length ≤ c ∧ TreesAt w A ts := by
    obtain ⟨kd, nm, ps, ts⟩ := t
    obtain ⟨A, c, rfl, hc, hA⟩ := hv.open_
    exact ⟨A, c, kd, nm, ps, ts, rfl, rfl, hc, hA⟩
  clear hT hA
  obtain ⟨wa, hwa⟩ : ∃ wa, w.alloc (.cells #[.int .i64 kd, S nm, .int .i64 ps, .slice A ts.length c] 42) = wa := ⟨_, rfl⟩
  have ba : Below w.heap.size w wa := by rw [← hwa]; exact (Below.refl _ _).alloc (Nat.le_refl _) _
  have sa : wa.heap.size = w.heap.size + 1 := by rw [← hwa]; simp
  have hx0 : wa.cell? ⟨w.heap.size, 0, none⟩ = some (.int .i64 kd) := by rw [← hwa]; simp
  have hx1 : wa.cell? ⟨w.heap.size, 1, none⟩ = some (S nm) := by rw [← hwa]; simp
  have hx2 : wa.cell? ⟨w.heap.size, 2, none⟩ = some (.int .i64 ps) := by rw [← hwa]; simp
  have hx3 : wa.cell? ⟨w.heap.size, 3, none⟩ = some (.slice A ts.length c) := by rw [← hwa]; simp
  obtain ⟨w1, hw1⟩ : ∃ w1, wa.alloc (.cells #[.slice Aq q.length cq] 38) = w1 := ⟨_, rfl⟩
  have b1 : Below wa.heap.size wa w1 := by rw [← hw1]; exact (Below.refl _ _).alloc (Nat.le_refl _) _
  have s1 : w1.heap.size = wa.heap.size + 1 := by rw [← hw1]; simp
  have hqc : w1.cell? ⟨wa.heap.size, 0, none⟩ = some (.slice Aq q.length cq) := by rw [← hw1]; simp
  have b01 : Below w.heap.size w w1 := ba.trans (b1.mono (by omega))
  have hy0 := (b1.cell (p := ⟨w.heap.size, 0, none⟩) (by simp only; omega)).trans hx0
  have hy1 := (b1.cell (p := ⟨w.heap.size, 1, none⟩) (by simp only; omega)).trans hx1
  have hy2 := (b1.cell (p := ⟨w.heap.size, 2, none⟩) (by simp only; omega)).trans hx2
  have hy3 := (b1.cell (p := ⟨w.heap.size, 3, none⟩) (by simp only; omega)).trans hx3
  clear hx0 hx1 hx2 hx3
  have HV := Lib.hid (hv.below b01)
  have HQ := Lib.hid (hq.below b01)
  clear hq hv
  rw [sa] at hqc
  by_cases hz : t.wf = 0
  · have hf : t.fmt q = t.text q := if_pos hz
    rw [hf]
    go_enter Tryd.func32, Tryd.ntmps32
    go_upto_region 1 with fail
    clear hw1 hwa
    go_wp2_with fail
    refine (wf_any t _ _ hmax HV.out).mono ?_
    rintro e w2 ⟨rfl, hb2⟩
    rw [hz]
    clear hf
    have hs2 := hb2.size
    obtain ⟨w4, hw4, hE, hB, hb4, hs4⟩ := fmtEnv w2 (w.heap.size + 1)
    go_upto_region 8 with fail
    clear hw4
    have b4 : Below w1.heap.size w1 w4 := hb2.trans (hb4.mono hs2)
    have hz0 := (b4.cell (p := ⟨w.heap.size, 0, none⟩) (by simp only; omega)).trans hy0
    have hz1 := (b4.cell (p := ⟨w.heap.size, 1, none⟩) (by simp only; omega)).trans hy1
    have hz2 := (b4.cell (p := ⟨w.heap.size, 2, none⟩) (by simp only; omega)).trans hy2
    have hz3 := (b4.cell (p := ⟨w.heap.size, 3, none⟩) (by simp only; omega)).trans hy3
    clear hy0 hy1 hy2 hy3
    have hW := cell_of_one hE.wr
    obtain ⟨hfm, hsz, _⟩ := Lfc.wf_zero hz
    have hlen := Lfc.text_len q 1000000 t hshort
    have hlen2 : t.size * (1000000 + 20) ≤ 4096 * 1000020 := Nat.mul_le_mul_right _ hsz
    have HWr := Lib.hid (write_upto w2 w2.heap.size (w.heap.size + 1) q ⟨by omega, hql, Aq, cq, (hb2.cell (p := ⟨w.heap.size + 1, 0, none⟩) (by simp only; omega)).trans hqc, HQ.out.below hb2⟩ t.size t _ w4 [] (Nat.le_refl _) hfm (HV.out.below hb2) hE hB (by simp only [List.length_nil]; omega))
    clear hE hB hlen hlen2 hqc hz
    go_wp2_with fail
    refine HWr.out.mono ?_
    rintro e w5 ⟨rfl, hB5, hb5, _⟩
    have hs5 := hb5.size
    go_wp2_with fail
    refine (string_any w2.heap.size w2.heap.size _ w5 hB5 (by omega)).mono ?_
    rintro e w6 ⟨rfl, _, hb6, _⟩
    go_wp2_with fail
    go_ret
    exact ⟨rfl, b01.trans ((b4.mono (by omega)).trans ((hb5.mono (by omega)).trans (hb6.mono (by omega))))⟩
  · have hf : t.fmt q = [] := if_neg hz
    rw [hf]
    have hg : (t.wf != 0) = true := by simpa using hz
    clear hf hz
    go_enter Tryd.func32, Tryd.ntmps32
    go_upto_region 1 with fail
    clear hw1 hwa
    go_wp2_with fail
    refine (wf_any t _ _ hmax HV.out).mono ?_
    rintro e w2 ⟨rfl, hb2⟩
    go_wp2_with fail
    go_ret
    exact ⟨rfl, b01.trans (hb2.mono (by omega))⟩
end Go.Proofs.YtmdhkcefbkdkbaaDoor
