/- The contract of Path. -/
import Derived.Test.YtadjpadieljjlaaGreatOrPath1
set_option linter.unusedVariables false
set_option linter.unusedSimpArgs false
namespace Go.Proofs.YtadjpadieljjlaaGreat
open Go.RowKit
theorem own_base {w : World} {b b' : Nat} {e : TypeId} {size n : Nat} {v : Value} {xs : List Value} (h : w.ownsRow b e size v n xs) (hb : b' ≤ b) : w.ownsRow b' e size v n xs := by
  refine ⟨h.1, h.2.imp id ?_⟩
  rintro ⟨g, cap, cur, h1, h2, h3⟩
  exact ⟨g, cap, cur, h1, Nat.le_trans hb h2, h3⟩
/-- What Path answers. -/
def PathAns (w : World) (r : Option (List Int)) (e : Ending) (w' : World) : Prop :=
  ((r = none ∧ e = .returned (.tuple #[.slice none 0 0, .bool false])) ∨ (∃ q A c, r = some q ∧ e = .returned (.tuple #[.slice A q.length c, .bool true]) ∧ q.length ≤ c ∧ w'.ownsRow w.heap.size 3 1 (.slice A q.length c) q.length (ints q))) ∧ Below w.heap.size w w'

set_option maxRecDepth 100000 in
set_option maxHeartbeats 4000000 in
theorem oPath_any (t u : Lfc.Raw) (vt vu : Value) (ks : List Int) (A0 : Option Addr) (c0 : Nat) (w : World) (hks : ks.length ≤ 1000000) (ht : t.size ≤ 1000000) (hu : u.size ≤ 1000000) (hA0 : IntsO w A0 ks) (hv : TreeV w t vt) (hv' : TreeV w u vu) :
    Calls Tryz.prog 20 #[vt, vu, .slice A0 ks.length c0] w (PathAns w (Lfc.Raw.path ks t u)) := by
  have he := enters_path
  have HV := Lib.hid hv
  have HV' := Lib.hid hv'
  have HP : Hid (Lfc.Raw.path ks t u = if t.isO && u.isO then Lfc.Raw.pth ks t u 0 else none) := Lib.hid rfl
  obtain ⟨A, c, kd, nm, ps, xs, hT, rfl⟩ : ∃ A c kd nm ps xs, t = .node kd nm ps xs ∧ vt = .agg #[.int .i64 kd, S nm, .int .i64 ps, .slice A (List.length xs) c] := by
    obtain ⟨kd, nm, ps, ts⟩ := t
    obtain ⟨A, c, rfl, hc, hA⟩ := hv.open_
    exact ⟨A, c, kd, nm, ps, ts, rfl, rfl⟩
  obtain ⟨A', c', kd', nm', ps', ys, hU, rfl⟩ : ∃ A c kd nm ps xs, u = .node kd nm ps xs ∧ vu = .agg #[.int .i64 kd, S nm, .int .i64 ps, .slice A (List.length xs) c] := by
    obtain ⟨kd, nm, ps, ts⟩ := u
    obtain ⟨A, c, rfl, hc, hA⟩ := hv'.open_
    exact ⟨A, c, kd, nm, ps, ts, rfl, rfl⟩
  obtain ⟨w1, hw1⟩ : ∃ w1, w.alloc (.cells #[.int .i64 kd, S nm, .int .i64 ps, .slice A xs.length c] 51) = w1 := ⟨_, rfl⟩
  obtain ⟨w2, hw2⟩ : ∃ w2, w1.alloc (.cells #[.int .i64 kd', S nm', .int .i64 ps', .slice A' ys.length c'] 51) = w2 := ⟨_, rfl⟩
  obtain ⟨w3, hw3⟩ : ∃ w3, w2.alloc (.cells #[.slice A0 ks.length c0] 22) = w3 := ⟨_, rfl⟩
  have b1 : Below w.heap.size w w1 := by rw [← hw1]; exact (Below.refl _ _).alloc (Nat.le_refl _) _
  have b2 : Below w1.heap.size w1 w2 := by rw [← hw2]; exact (Below.refl _ _).alloc (Nat.le_refl _) _
  have b3 : Below w2.heap.size w2 w3 := by rw [← hw3]; exact (Below.refl _ _).alloc (Nat.le_refl _) _
  have q1 : w1.heap[w.heap.size]? = some (.cells #[.int .i64 kd, S nm, .int .i64 ps, .slice A xs.length c] 51 (0, 0)) := by rw [← hw1]; exact heap_alloc_new _ _
  have q2 : w2.heap[w1.heap.size]? = some (.cells #[.int .i64 kd', S nm', .int .i64 ps', .slice A' ys.length c'] 51 (0, 0)) := by rw [← hw2]; exact heap_alloc_new _ _
  have q3 : w3.heap[w2.heap.size]? = some (.cells #[.slice A0 ks.length c0] 22 (0, 0)) := by rw [← hw3]; exact heap_alloc_new _ _
  have l1 := lt_of_block q1
  have l2 := lt_of_block q2
  have l3 := lt_of_block q3
  have b13 : Below w1.heap.size w1 w3 := b2.trans (b3.mono (by omega))
  have b03 : Below w.heap.size w w3 := b1.trans (b13.mono (by omega))
  have Q1 := Lib.hid ((b13.block _ l1).trans q1)
  have Q2 := Lib.hid ((b3.block _ l2).trans q2)
  have Q3 := Lib.hid q3
  have B03 := Lib.hid b03
  have HA0 := Lib.hid hA0
  have HT := Lib.hid hT
  have HU := Lib.hid hU
  have s03 : w.heap.size ≤ w3.heap.size := by omega
  obtain ⟨y0, y1, y2, y3⟩ := cells4t Q1.out
  have CT := Lib.hid (tIsO_any t _ w3 ht (HV.out.below b03))
  have CU := Lib.hid (fun W (hW : Below w3.heap.size w3 W) => tIsO_any u _ W hu (HV'.out.below (b03.trans (hW.mono s03))))
  have HOT : Hid (t.isO = true → t.obj = true) := Lib.hid (fun h => by rw [Lfc.Raw.isO, Bool.and_eq_true] at h; exact h.1)
  have HOU : Hid (u.isO = true → u.obj = true) := Lib.hid (fun h => by rw [Lfc.Raw.isO, Bool.and_eq_true] at h; exact h.1)
  rw [HP.out]
  clear HP hT hU hv hv' hA0 b1 b2 b3 q1 q2 q3 b13 b03
  obtain ⟨qt, hqt⟩ : ∃ qt, t.isO = qt := ⟨_, rfl⟩
  obtain ⟨qu, hqu⟩ : ∃ qu, u.isO = qu := ⟨_, rfl⟩
  rw [hqt] at CT HOT ⊢
  rw [hqu] at CU HOU ⊢
  clear hqt hqu
  cases qt
  · have HE : Hid ((if false && qu then Lfc.Raw.pth ks t u 0 else none) = none) := Lib.hid rfl
    rw [HE.out]
    go_enter Tryz.func20, Tryz.ntmps20
    go_wp2_with fail
    refine CT.out.mono ?_
    rintro e w4 ⟨rfl, b4⟩
    go_wp2_with fail
    refine bodyPost_ret (results_tmp2 rfl _ _ _) rfl ?_
    exact ⟨.inl ⟨rfl, rfl⟩, B03.out.trans (b4.mono s03)⟩
  · have HOT2 := Lib.hid (HOT.out rfl)
    clear HOT
    cases qu
    · have HE : Hid ((if true && false then Lfc.Raw.pth ks t u 0 else none) = none) := Lib.hid rfl
      rw [HE.out]
      go_enter Tryz.func20, Tryz.ntmps20
      go_wp2_with fail
      refine CT.out.mono ?_
      rintro e w4 ⟨rfl, b4⟩
      clear y0 y1 y2 y3
      obtain ⟨y0, y1, y2, y3⟩ := cells4t ((b4.block _ (by omega)).trans Q2.out)
      go_wp2_with fail
      refine (CU.out _ b4).mono ?_
      rintro e w5 ⟨rfl, b5'⟩
      have b5 := b4.trans (b5'.mono b4.size)
      have s5 := b5.size
      clear b5' b4 y0 y1 y2 y3 hw1 hw2 hw3 CU CT
      go_wp2_with fail
      refine bodyPost_ret (results_tmp2 rfl _ _ _) rfl ?_
      exact ⟨.inl ⟨rfl, rfl⟩, B03.out.trans (b5.mono s03)⟩
    · have HE : Hid ((if true && true then Lfc.Raw.pth ks t u 0 else none) = Lfc.Raw.pth ks t u 0) := Lib.hid rfl
      have HOU2 := Lib.hid (HOU.out rfl)
      clear HOU
      rw [HE.out]
      obtain ⟨r, hr⟩ : ∃ r, Lfc.Raw.pth ks t u 0 = r := ⟨_, rfl⟩
      rw [hr]
      have HR := Lib.hid hr
      clear hr
      go_enter Tryz.func20, Tryz.ntmps20
      go_wp2_with fail
      refine CT.out.mono ?_
      rintro e w4 ⟨rfl, b4⟩
      clear y0 y1 y2 y3
      obtain ⟨y0, y1, y2, y3⟩ := cells4t ((b4.block _ (by omega)).trans Q2.out)
      go_wp2_with fail
      refine (CU.out _ b4).mono ?_
      rintro e w5 ⟨rfl, b5'⟩
      have b5 := b4.trans (b5'.mono b4.size)
      have s5 := b5.size
      clear b5' b4 y0 y1 y2 y3 hw1 hw2 hw3 CU CT
      obtain ⟨w6, hw6⟩ : ∃ w6, w5.alloc (.cells #[.slice none 0 0] 22) = w6 := ⟨_, rfl⟩
      obtain ⟨w7, hw7⟩ : ∃ w7, w6.alloc (.cells #[.func (.func 44) #[] #[.pointer (some ⟨w.heap.size, 0, none⟩), .pointer (some ⟨w2.heap.size, 0, none⟩), .pointer (some ⟨w5.heap.size, 0, none⟩), .pointer (some ⟨w6.heap.size, 0, none⟩)]] 97) = w7 := ⟨_, rfl⟩
      have b6 : Below w5.heap.size w5 w6 := by rw [← hw6]; exact (Below.refl _ _).alloc (Nat.le_refl _) _
      have b7 : Below w6.heap.size w6 w7 := by rw [← hw7]; exact (Below.refl _ _).alloc (Nat.le_refl _) _
      have q6 : w6.heap[w5.heap.size]? = some (.cells #[.slice none 0 0] 22 (0, 0)) := by rw [← hw6]; exact heap_alloc_new _ _
      have q7 : w7.heap[w6.heap.size]? = some (.cells #[.func (.func 44) #[] #[.pointer (some ⟨w.heap.size, 0, none⟩), .pointer (some ⟨w2.heap.size, 0, none⟩), .pointer (some ⟨w5.heap.size, 0, none⟩), .pointer (some ⟨w6.heap.size, 0, none⟩)]] 97 (0, 0)) := by rw [← hw7]; exact heap_alloc_new _ _
      have l6 := lt_of_block q6
      have l7 := lt_of_block q7
      have b37 : Below w3.heap.size w3 w7 := b5.trans ((b6.trans (b7.mono (by omega))).mono s5)
      have SZ : PtS w ks A0 c0 kd ps nm A xs.length c w.heap.size w2.heap.size w5.heap.size w6.heap.size w7.heap.size w7 [] none 0 :=
        ⟨B03.out.trans (b37.mono s03), (b37.block _ (by omega)).trans Q1.out, (b37.block _ l3).trans Q3.out, (b7.block _ l6).trans q6, q7, ⟨rfl, .inl ⟨rfl, rfl⟩⟩, by omega⟩
      have CALL := Lib.hid (ptWalk_upto w ks A0 c0 kd ps nm A xs xs.length c _ _ _ _ _ t rfl HT.out hks HA0.out HOT2.out HV.out _ hu u _ 0 w7 [] none 0 (Nat.le_refl _) (by omega) (by simp; omega) HOU2.out HV'.out SZ)
      rw [HR.out] at CALL
      obtain ⟨x0, x1, x2, x3⟩ := cells4t ((b37.block _ (by omega)).trans Q2.out)
      have c4 := Lib.cell_of_heap q7 0
      simp at c4
      have HW7 := Lib.hid hw7
      have hs0 : w.heap.size ≤ w7.heap.size := by omega
      clear hw7 b6 b7 q6 q7 b37 SZ
      go_upto_region 6 with fail
      rw [HW7.out]
      go_wp2_with fail
      refine CALL.out.mono ?_
      rintro e w9 ⟨A9, c9, K9, (⟨hn, rfl, S9⟩ | ⟨q, hq, rfl, S9⟩)⟩
      · go_wp2_with fail
        refine bodyPost_ret (results_tmp2 rfl _ _ _) rfl ?_
        exact ⟨.inl ⟨hn, rfl⟩, S9.below⟩
      · rw [List.nil_append] at S9
        have z9 := Lib.cell_of_heap S9.b3 0
        simp at z9
        have HZ : Hid (PathAns w r (.returned (.tuple #[.slice A9 q.length c9, .bool true])) w9) := Lib.hid ⟨.inr ⟨q, A9, c9, hq, rfl, by
          rcases S9.own.2 with ⟨_, h2⟩ | ⟨g', cap', cur', hv', _, _, hnc, _⟩
          · rw [h2]; exact Nat.zero_le _
          · injection hv' with _ _ e3; omega, own_base S9.own hs0⟩, S9.below⟩
        clear S9 hq K9
        go_wp2_with fail
        refine bodyPost_ret (results_tmp2 rfl _ _ _) rfl ?_
        exact HZ.out
end Go.Proofs.YtadjpadieljjlaaGreat
