/- The contract of the reference's format: kinds without a binder (a quoted name: see RawRFmt3). -/
import Derived.Test.YtmdhkcefbkdkbaaDoorRawRFmt
set_option linter.unusedVariables false
set_option linter.unusedSimpArgs false
namespace Go.Proofs.YtmdhkcefbkdkbaaDoor
open Go.RowKit Go.Maps Go.WideMaps

set_option maxRecDepth 100000 in
set_option maxHeartbeats 4000000 in
theorem rfmt_two (w0 : World) (q : List (List UInt8)) (Aq : Option Addr) (cq m : Nat) (ih : RFmtUpto w0 q Aq cq m) (k p : Int) (n : List UInt8) (hk : k = 5 ∨ k = 6 ∨ k = 9) (a a' : Lfc.Raw) (hm : a.size + a'.size ≤ m) (hfa : a.form = true) (hfa' : a'.form = true) (v : Value) (w : World) (acc : List UInt8) (vb : Value) (hv : TreeV w0 (.node k n p [a, a']) v) (hb0 : Below w0.heap.size w0 w) (hown : w.ownsRow w0.heap.size 5 1 vb acc.length (Lib.byteCells acc)) (hl : acc.length + ((Lfc.Raw.node k n p [a, a']).text q).length ≤ 10000000000) :
    Calls Tryd.prog 62 #[vb, v, .slice Aq q.length cq] w fun e w' => ∃ vb', e = .returned vb' ∧ w'.ownsRow w0.heap.size 5 1 vb' (acc ++ (Lfc.Raw.node k n p [a, a']).text q).length (Lib.byteCells (acc ++ (Lfc.Raw.node k n p [a, a']).text q)) ∧ KeptU w w' ∧ Below w0.heap.size w0 w' := by
  obtain ⟨mid, hmid, htx⟩ : ∃ mid : List UInt8, ((k = 5 ∧ mid = [32]) ∨ (k = 6 ∧ mid = [32, 45, 62, 32]) ∨ (k = 9 ∧ mid = [32, 58, 32])) ∧ (Lfc.Raw.node k n p [a, a']).text q = [40] ++ a.text q ++ mid ++ a'.text q ++ [41] := by
    rcases hk with rfl | rfl | rfl
    · exact ⟨_, .inl ⟨rfl, rfl⟩, by simp [Lfc.Raw.text, Lfc.Raw.texts, Lfc.putText, Lfc.twoText]⟩
    · exact ⟨_, .inr (.inl ⟨rfl, rfl⟩), by simp [Lfc.Raw.text, Lfc.Raw.texts, Lfc.putText, Lfc.twoText]⟩
    · exact ⟨_, .inr (.inr ⟨rfl, rfl⟩), by simp [Lfc.Raw.text, Lfc.Raw.texts, Lfc.putText, Lfc.twoText]⟩
  rw [htx] at hl ⊢
  simp only [List.length_append, List.length_singleton] at hl
  obtain ⟨wa, hwa⟩ : ∃ wa : World, wa = wa ∧ True := ⟨w, rfl, trivial⟩
  clear hwa wa
  have hv' := hv
  obtain ⟨A, c, rfl, hc, hA⟩ := hv.open_
  obtain ⟨wa, hwa⟩ : ∃ wa, w.alloc (.cells #[.int .i64 k, S n, .int .i64 p, .slice A 2 c] 42) = wa := ⟨_, rfl⟩
  have ba : Below w.heap.size w wa := by rw [← hwa]; exact (Below.refl _ _).alloc (Nat.le_refl _) _
  have qa : wa.heap[w.heap.size]? = some (.cells #[.int .i64 k, S n, .int .i64 p, .slice A 2 c] 42 (0, 0)) := by rw [← hwa]; exact heap_alloc_new _ _
  obtain ⟨x0, x1, x2, x3⟩ := cells4 qa
  have HT := Lib.hid (rtwo_any w0 q Aq cq m ih k p n mid a a' hm hfa hfa' _ wa acc vb hv' (hb0.trans (ba.mono hb0.size)) (own_below hown ba) (by omega))
  have HB := Lib.hid ba
  simp only [List.length_cons, List.length_nil, Nat.zero_add, Nat.reduceAdd] at *
  clear hv hv' hA ih hown hb0 htx qa ba hk
  rcases hmid with ⟨rfl, rfl⟩ | ⟨rfl, rfl⟩ | ⟨rfl, rfl⟩
  all_goals
    go_enter Tryd.func62, Tryd.ntmps62
    go_upto_region 1 with fail
    clear hwa
    go_wp2_with fail
    refine HT.out.mono ?_
    rintro e w2 ⟨v2, rfl, hown2, hk2, hb2⟩
    have H2 := Lib.hid (And.intro hown2 (And.intro ((KeptU.new HB.out).trans hk2) hb2))
    clear hown2 hk2 hb2
    go_wp2_with fail
    go_ret
    exact ⟨_, rfl, H2.out⟩

set_option maxRecDepth 100000 in
set_option maxHeartbeats 4000000 in
theorem rfmt_leaf (w0 : World) (q : List (List UInt8)) (Aq : Option Addr) (cq : Nat) (hq : NamesAt w0 Aq q) (hql : q.length ≤ 1000000000) (k p : Int) (n : List UInt8) (hk : (k = 1 ∧ n ∉ q) ∨ k = 2 ∨ k = 3 ∨ k = 4) (v : Value) (w : World) (acc : List UInt8) (vb : Value) (hv : TreeV w0 (.node k n p []) v) (hb0 : Below w0.heap.size w0 w) (hown : w.ownsRow w0.heap.size 5 1 vb acc.length (Lib.byteCells acc)) (hl : acc.length + ((Lfc.Raw.node k n p []).text q).length ≤ 10000000000) :
    Calls Tryd.prog 62 #[vb, v, .slice Aq q.length cq] w fun e w' => ∃ vb', e = .returned vb' ∧ w'.ownsRow w0.heap.size 5 1 vb' (acc ++ (Lfc.Raw.node k n p []).text q).length (Lib.byteCells (acc ++ (Lfc.Raw.node k n p []).text q)) ∧ KeptU w w' ∧ Below w0.heap.size w0 w' := by
  have hnn := hv.name_le
  obtain ⟨A, c, rfl, hc, hA⟩ := hv.open_
  simp only [List.length_nil] at *
  obtain ⟨i0, hi0, hz0, hz1, hz2⟩ := info_parts byteInfo
  obtain ⟨wa, hwa⟩ : ∃ wa, w.alloc (.cells #[.int .i64 k, S n, .int .i64 p, .slice A 0 c] 42) = wa := ⟨_, rfl⟩
  have ba : Below w.heap.size w wa := by rw [← hwa]; exact (Below.refl _ _).alloc (Nat.le_refl _) _
  have qa : wa.heap[w.heap.size]? = some (.cells #[.int .i64 k, S n, .int .i64 p, .slice A 0 c] 42 (0, 0)) := by rw [← hwa]; exact heap_alloc_new _ _
  obtain ⟨x0, x1, x2, x3⟩ := cells4 qa
  have H0 : Hid (BS w0 w w.heap.size #[.int .i64 k, S n, .int .i64 p, .slice A 0 c] acc wa vb) := Lib.hid ⟨own_below hown ba, KeptU.new ba, hb0.trans (ba.mono hb0.size), qa⟩
  have HIN := Lib.hid (rIn_any q n Aq cq wa hql (hq.below H0.out.bel))
  obtain ⟨Al, cl, rfl⟩ := own_form hown
  have hsz0 := H0.out.bel.size
  clear qa ba hv hown hb0 hA hq
  rcases hk with ⟨rfl, hnq⟩ | rfl | rfl | rfl
  · have htx : (Lfc.Raw.node 1 n p []).text q = n := by simp [Lfc.Raw.text, Lfc.putText, hnq]
    rw [htx] at hl ⊢
    rw [decide_eq_false hnq] at HIN
    have hlm : acc.length + (⟨n.toArray⟩ : ByteArray).size ≤ maxLen := by rw [bsize]; unfold maxLen; omega
    have hlb : acc.length + (⟨n.toArray⟩ : ByteArray).size ≤ 140737488355328 := by rw [bsize]; omega
    clear htx hnq
    go_enter Tryd.func62, Tryd.ntmps62
    go_upto_region 1 with fail
    clear hwa
    go_wp2_with fail
    refine HIN.out.mono ?_
    rintro e w2 ⟨rfl, hw2⟩
    obtain rfl := hw2
    go_wp2_with (at_builtin; refine Lib.wpList_append_own_string wa rfl _ _ 37 9 rfl w0.heap.size 5 i0 Tryd.underlying37 Tryd.underlying9 hi0 hz0 hz1 hz2 _ _ _ rfl H0.out.own ⟨n.toArray⟩ rfl hlm hlb hsz0 ?_)
    intro v3 w3 hown3 hg3 _
    have H3 := Lib.hid (H0.out.pushS hown3 hg3)
    clear hown3 hg3
    go_wp2_with fail
    go_ret
    exact ⟨_, rfl, H3.out.own, H3.out.kept, H3.out.bel⟩
  · have htx : (Lfc.Raw.node 2 n p []).text q = [64] ++ n := by simp [Lfc.Raw.text, Lfc.putText]
    rw [htx] at hl ⊢
    simp only [List.length_append, List.length_singleton] at hl
    have hlm : acc.length + 1 ≤ maxLen := by unfold maxLen; omega
    have hlb : (acc.length + 1) * 1 ≤ 140737488355328 := by omega
    have hlm2 : (acc ++ [64]).length + (⟨n.toArray⟩ : ByteArray).size ≤ maxLen := by rw [bsize]; simp only [List.length_append, List.length_singleton]; unfold maxLen; omega
    have hlb2 : (acc ++ [64]).length + (⟨n.toArray⟩ : ByteArray).size ≤ 140737488355328 := by rw [bsize]; simp only [List.length_append, List.length_singleton]; omega
    clear htx
    go_enter Tryd.func62, Tryd.ntmps62
    go_upto_region 1 with fail
    clear hwa
    go_wp2_with fail
    go_region_held3 (fun w' => w'.cell? ⟨w.heap.size, 1, none⟩ = some (S n))
      (first | exact Lib.cell_of_heap (H0.out.new (Below.refl _ _).drew).box 1 | exact Lib.cell_of_heap (H0.out.new ((Below.refl _ _).alloc (Nat.le_refl _) _).drew).box 1 | exact Lib.cell_of_heap H1.out.box 1 | exact Lib.cell_of_heap H2.out.box 1)
      (first
        | (refine step_append_own_at _ (by rfl) _ _ 37 (by rfl) w0.heap.size 5 i0 (.int .u8 0) 1 1 Tryd.underlying37 hi0 hz0 hz1 hz2 rfl (by decide) _ _ _ (by rfl) ((H0.out.own.alloc _).drew) ⟨wa.heap.size, 0, none⟩ 1 1 [.int .u8 64] (by rfl) (by rfl) (fun j u h => cell_one_new wa _ 5 j u h) (byte_one 64) hlm hlb (alloc_le hsz0) ?_; intro v1 w1 hown1 hg1 hloc1; have H1 := Lib.hid ((H0.out.new (((Below.refl _ _).alloc (Nat.le_refl _) _).drew)).push (bs := [64]) hown1 hg1))
        | (refine step_append_strB _ (by rfl) _ _ 37 9 (by rfl) w0.heap.size 5 i0 Tryd.underlying37 Tryd.underlying9 hi0 hz0 hz1 hz2 _ _ _ (by rfl) H1.out.own ⟨n.toArray⟩ (by rfl) hlm2 hlb2 H1.out.bel.size ?_; intro v2 w2 hown2 hg2; have H2 := Lib.hid (H1.out.pushS hown2 hg2)))
    clear hown2 hg2 hown1 hg1 hloc1
    go_wp2_with fail
    go_ret
    refine ⟨_, rfl, ?_, H2.out.kept, H2.out.bel⟩
    have := H2.out.own
    rw [List.append_assoc] at this
    exact this
  · have htx : (Lfc.Raw.node 3 n p []).text q = [95] := by simp [Lfc.Raw.text, Lfc.putText]
    rw [htx] at hl ⊢
    have hlm : acc.length + 1 ≤ maxLen := by simp only [List.length_singleton] at hl; unfold maxLen; omega
    have hlb : (acc.length + 1) * 1 ≤ 140737488355328 := by simp only [List.length_singleton] at hl; omega
    clear htx
    go_enter Tryd.func62, Tryd.ntmps62
    go_upto_region 1 with fail
    clear hwa
    go_wp2_with (at_builtin; refine wpList_append_own_at _ rfl _ _ 37 rfl w0.heap.size 5 i0 (.int .u8 0) 1 1 Tryd.underlying37 hi0 hz0 hz1 hz2 rfl (by decide) _ _ _ rfl (H0.out.own.alloc _) ⟨wa.heap.size, 0, none⟩ 1 1 [.int .u8 95] rfl rfl (cell_one_new _ _ _) (byte_one 95) hlm hlb (alloc_le hsz0) ?_)
    intro v5 w5 hown5 hg5 _ _
    have H5 := Lib.hid ((H0.out.new ((Below.refl _ _).alloc (Nat.le_refl _) _)).push (bs := [95]) hown5 hg5)
    clear hown5 hg5
    go_wp2_with fail
    go_ret
    exact ⟨_, rfl, H5.out.own, H5.out.kept, H5.out.bel⟩
  · have htx : (Lfc.Raw.node 4 n p []).text q = [116, 121, 112, 101] := by simp [Lfc.Raw.text, Lfc.putText]
    rw [htx] at hl ⊢
    simp only [List.length_cons, List.length_nil] at hl
    have hlm : acc.length + (⟨#[116, 121, 112, 101]⟩ : ByteArray).size ≤ maxLen := by show acc.length + 4 ≤ maxLen; unfold maxLen; omega
    have hlb : acc.length + (⟨#[116, 121, 112, 101]⟩ : ByteArray).size ≤ 140737488355328 := by show acc.length + 4 ≤ _; omega
    clear htx
    go_enter Tryd.func62, Tryd.ntmps62
    go_upto_region 1 with fail
    clear hwa
    go_wp2_with (at_builtin; refine Lib.wpList_append_own_string wa rfl _ _ 37 9 rfl w0.heap.size 5 i0 Tryd.underlying37 Tryd.underlying9 hi0 hz0 hz1 hz2 _ _ _ rfl H0.out.own ⟨#[116, 121, 112, 101]⟩ rfl hlm hlb hsz0 ?_)
    intro v3 w3 hown3 hg3 _
    have H3 := Lib.hid (H0.out.pushS (bs := [116, 121, 112, 101]) hown3 hg3)
    clear hown3 hg3
    go_wp2_with fail
    go_ret
    exact ⟨_, rfl, H3.out.own, H3.out.kept, H3.out.bel⟩
end Go.Proofs.YtmdhkcefbkdkbaaDoor
