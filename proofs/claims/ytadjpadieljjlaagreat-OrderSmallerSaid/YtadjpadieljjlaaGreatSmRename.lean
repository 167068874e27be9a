/- The contract of Rename of the reference 06. -/
import Derived.Test.YtadjpadieljjlaaGreatSmRen
import Derived.Test.YtadjpadieljjlaaGreatSmSorts
set_option linter.unusedVariables false
set_option linter.unusedSimpArgs false
namespace Go.Proofs.YtadjpadieljjlaaGreat
open Go.RowKit Go.Maps
set_option maxRecDepth 100000 in
set_option maxHeartbeats 4000000 in
theorem sRename_any (t : Lfc.Raw) (v : Value) (zs : List Int) (At : Option Addr) (ct : Nat) (w : World) (ht : t.size ≤ 100000) (hpo : t.posB 1048576 = true) (hzl : zs.length ≤ 1000000) (hzs : IntsO w At zs) (hv : TreeV w t v) :
    Calls Tryz.prog 53 #[v, .slice At zs.length ct] w (RenAns w t.size) := by
  have HV := Lib.hid hv
  obtain ⟨kd, nm, ps, ts⟩ := t
  obtain ⟨A, c, rfl, hc, hA⟩ := hv.open_
  have hsz1 := (Lfc.Raw.node kd nm ps ts).size_pos
  obtain ⟨w1, hw1⟩ : ∃ w1, w.alloc (.cells #[.int .i64 kd, S nm, .int .i64 ps, .slice A ts.length c] 51) = w1 := ⟨_, rfl⟩
  obtain ⟨w2, hw2⟩ : ∃ w2, w1.alloc (.cells #[.int .i64 0, S [], .int .i64 0, .slice none 0 0] 51) = w2 := ⟨_, rfl⟩
  have b1 : Below w.heap.size w w1 := by rw [← hw1]; exact (Below.refl _ _).alloc (Nat.le_refl _) _
  have b2 : Below w1.heap.size w1 w2 := by rw [← hw2]; exact (Below.refl _ _).alloc (Nat.le_refl _) _
  have q1 : w1.heap[w.heap.size]? = some (.cells #[.int .i64 kd, S nm, .int .i64 ps, .slice A ts.length c] 51 (0, 0)) := by rw [← hw1]; exact heap_alloc_new _ _
  have q2 : w2.heap[w1.heap.size]? = some (.cells #[.int .i64 0, S [], .int .i64 0, .slice none 0 0] 51 (0, 0)) := by rw [← hw2]; exact heap_alloc_new _ _
  have l1 := lt_of_block q1
  have l2 := lt_of_block q2
  have b12 : Below w.heap.size w w2 := b1.trans (b2.mono (by omega))
  have B12 := Lib.hid b12
  have Q1 := Lib.hid ((b2.block _ l1).trans q1)
  have Q2 := Lib.hid q2
  have C1 := Lib.hid (fun W (hb : Below w2.heap.size w2 W) => sWf_any _ _ W (by omega) (HV.out.below (b12.trans (hb.mono (by omega)))))
  have C2 := Lib.hid (fun W (hb : Below w2.heap.size w2 W) => sRen_upto 1000000 (by omega) _ _ 0 zs At ct W (by omega) hpo (by omega) hzl (hzs.below (b12.trans (hb.mono (by omega)))) (HV.out.below (b12.trans (hb.mono (by omega)))))
  obtain ⟨x0, x1, x2, x3⟩ := cells4t Q1.out
  obtain ⟨N, hN⟩ : ∃ N, (Lfc.Raw.node kd nm ps ts).size = N := ⟨_, rfl⟩
  rw [hN] at C2 hsz1 ⊢
  clear hv hA b1 b2 q1 q2 b12 hzs hpo hN
  go_enter Tryz.func53, Tryz.ntmps53
  go_wp2_with fail
  refine (C1.out _ (Below.refl _ _)).mono ?_
  rintro e w3 ⟨⟨x, rfl⟩, b3⟩
  clear x0 x1 x2 x3 hw1 hw2
  have B3 := Lib.hid b3
  by_cases hx : x = 0
  · subst hx
    obtain ⟨x0, x1, x2, x3⟩ := cells4t ((b3.block _ (by omega)).trans Q1.out)
    clear b3
    go_wp2_with fail
    refine (C2.out _ B3.out).mono ?_
    rintro e w4 ⟨⟨k9, n9, p9, ts9, A9, c9, b9, rfl, hv9, hz9, hq9⟩, b4⟩
    have b24 := B3.out.trans (b4.mono B3.out.size)
    have hs3 := B3.out.size
    have hn9 := hv9.toV.name_le
    have hc9 : TreesAtP (fun b => w3.heap.size ≤ b) w4 A9 ts9 ∧ ts9.length ≤ c9 := by
      obtain ⟨v0, v1, v2, v3, e, hP⟩ := hv9
      cases e
      rw [TreeP] at hP
      obtain ⟨_, _, _, _, A', c', e, h1, h2⟩ := hP
      cases e
      exact ⟨h2, h1⟩
    obtain ⟨s1, s2, s3, s4, g1, g2, g3, g4, ⟨y0, y1, y2, y3⟩, ⟨f0, f1, f2, f3⟩, hq, HZ⟩ := ren_ret (w := w) (w2 := w2) (k := k9) (p := p9) (nm := n9) (n := N) b9 (show w.heap.size ≤ w1.heap.size by omega) (B12.out.trans (b24.mono (by omega))) ((b24.block _ l2).trans Q2.out) hn9 ⟨hc9.1.keep (fun _ _ _ => rfl) (Nat.le_refl _) (fun b _ hb => by have hb : w3.heap.size ≤ b := hb; show w1.heap.size < b; omega), hc9.2⟩ (by rw [Lfc.Raw.size] at hz9; omega) hq9
    have HQ := Lib.hid hq
    clear hq hv9 hc9 hz9 hq9 b4 b24 x0 x1 x2 x3
    go_wp2_with fail
    refine bodyPost_ret (results_term2 rfl _ _ _ _ _ _ _ rfl HQ.out) rfl ?_
    exact HZ.out
  · have hx1 : (x != 0) = true := by simpa using hx
    have hx2 : (x == 0) = false := by simpa using hx
    obtain ⟨s1, s2, s3, s4, g1, g2, g3, g4, ⟨y0, y1, y2, y3⟩, ⟨f0, f1, f2, f3⟩, hq, HZ⟩ := ren_zero (w := w) (w2 := w2) (n := N) (show w.heap.size ≤ w1.heap.size by omega) (B12.out.trans (b3.mono (by omega))) ((b3.block _ l2).trans Q2.out) hsz1
    have HQ := Lib.hid hq
    clear hq b3 hx
    go_wp2_with fail
    refine bodyPost_ret (results_term2 rfl _ _ _ _ _ _ _ rfl HQ.out) rfl ?_
    exact HZ.out
end Go.Proofs.YtadjpadieljjlaaGreat
