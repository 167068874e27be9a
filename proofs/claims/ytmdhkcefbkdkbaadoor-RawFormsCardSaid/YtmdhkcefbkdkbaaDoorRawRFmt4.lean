/- The contract of the reference's format at a quoted name, and of its Format. -/
import Derived.Test.YtmdhkcefbkdkbaaDoorRawRFmt3
set_option linter.unusedVariables false
set_option linter.unusedSimpArgs false
namespace Go.Proofs.YtmdhkcefbkdkbaaDoor
open Go.RowKit Go.Maps Go.WideMaps

theorem own_block_lt {w : World} {base : Nat} {e : TypeId} {size n : Nat} {v : Value} {xs : List Value} (h : w.ownsRow base e size v n xs) : ∀ k, v.ownBlock = some k → k < w.heap.size := by
  rcases h.2 with ⟨rfl, rfl⟩ | ⟨g, cap, cur, rfl, _, hg, _⟩
  · intro k hk; cases hk
  · intro k hk; cases hk; exact lt_of_block hg
/-- A frame of format beside a block that bears the closing bracket. -/
structure BQ (w0 : World) (w : World) (R : Nat) (box : Array Value) (acc : List UInt8) (wr : World) (vr : Value) (B : Nat) : Prop where
  bs : BS w0 w R box acc wr vr
  q : wr.heap[B]? = some (.cells #[.int .u8 41] 5 (0, 0))
  ne : vr.ownBlock ≠ some B
theorem BS.q41 {w0 w wr : World} {vr : Value} {R : Nat} {box : Array Value} {acc : List UInt8} (h : BS w0 w R box acc wr vr) (B : Nat) (hB : B = wr.heap.size) : BQ w0 w R box acc (wr.alloc (.cells #[.int .u8 41] 5)) vr B := by
  subst hB
  exact ⟨h.new ((Below.refl _ _).alloc (Nat.le_refl _) _), heap_alloc_new _ _, fun e => absurd (own_block_lt h.own _ e) (by omega)⟩
theorem BQ.new {w0 w wr w2 : World} {vr : Value} {R B : Nat} {box : Array Value} {acc : List UInt8} (h : BQ w0 w R box acc wr vr B) (hb : Below wr.heap.size wr w2) : BQ w0 w R box acc w2 vr B :=
  ⟨h.bs.new hb, (hb.block _ (lt_of_block h.q)).trans h.q, h.ne⟩
theorem BQ.push {w0 w wr w2 : World} {vr v' : Value} {R B : Nat} {box : Array Value} {acc bs : List UInt8} (h : BQ w0 w R box acc wr vr B) (hown2 : w2.ownsRow w0.heap.size 5 1 v' (acc.length + bs.length) (Lib.byteCells acc ++ Lib.byteCells bs)) (hg2 : wr.grownBy w2 vr.ownBlock) (hloc : v'.ownBlock = vr.ownBlock ∨ v'.ownBlock = some wr.heap.size) : BQ w0 w R box (acc ++ bs) w2 v' B := by
  refine ⟨h.bs.push hown2 hg2, (hg2.block _ (lt_of_block h.q) (fun e => h.ne e.symm)).trans h.q, ?_⟩
  have hlt := lt_of_block h.q
  rcases hloc with e | e
  · rw [e]; exact h.ne
  · rw [e]; intro e2; injection e2 with e2; omega
theorem BQ.pushS {w0 w wr w2 : World} {vr v' : Value} {R B : Nat} {box : Array Value} {acc bs : List UInt8} (h : BQ w0 w R box acc wr vr B) (hown2 : w2.ownsRow w0.heap.size 5 1 v' (acc.length + (⟨bs.toArray⟩ : ByteArray).size) (Lib.byteCells acc ++ Lib.strCells ⟨bs.toArray⟩)) (hg2 : wr.grownBy w2 vr.ownBlock) : BS w0 w R box (acc ++ bs) w2 v' ∧ w2.heap[B]? = some (.cells #[.int .u8 41] 5 (0, 0)) :=
  ⟨h.bs.pushS hown2 hg2, (hg2.block _ (lt_of_block h.q) (fun e => h.ne e.symm)).trans h.q⟩
theorem one_cell {w : World} {B : Nat} {x : Value} {t : TypeId} (h : w.heap[B]? = some (.cells #[x] t (0, 0))) (j : Nat) (u : Value) (hu : [x][j]? = some u) : w.cell? ((⟨B, 0, none⟩ : Addr).add j) = some u := by
  rw [addr_add, cell_of_row _ _ j #[x] t (0, 0) h]
  simpa using hu

set_option maxRecDepth 100000 in
set_option maxHeartbeats 4000000 in
theorem rfmt_quoted (w0 : World) (q : List (List UInt8)) (Aq : Option Addr) (cq : Nat) (hq : NamesAt w0 Aq q) (hql : q.length ≤ 1000000000) (p : Int) (n : List UInt8) (hnq : n ∈ q) (v : Value) (w : World) (acc : List UInt8) (vb : Value) (hv : TreeV w0 (.node 1 n p []) v) (hb0 : Below w0.heap.size w0 w) (hown : w.ownsRow w0.heap.size 5 1 vb acc.length (Lib.byteCells acc)) (hl : acc.length + ((Lfc.Raw.node 1 n p []).text q).length ≤ 10000000000) :
    Calls Tryd.prog 62 #[vb, v, .slice Aq q.length cq] w fun e w' => ∃ vb', e = .returned vb' ∧ w'.ownsRow w0.heap.size 5 1 vb' (acc ++ (Lfc.Raw.node 1 n p []).text q).length (Lib.byteCells (acc ++ (Lfc.Raw.node 1 n p []).text q)) ∧ KeptU w w' ∧ Below w0.heap.size w0 w' := by
  have htx : (Lfc.Raw.node 1 n p []).text q = [40] ++ n ++ [41] := by simp [Lfc.Raw.text, Lfc.putText, hnq]
  rw [htx] at hl ⊢
  simp only [List.length_append, List.length_singleton] at hl
  obtain ⟨A, c, rfl, hc, hA⟩ := hv.open_
  simp only [List.length_nil] at *
  obtain ⟨i0, hi0, hz0, hz1, hz2⟩ := info_parts byteInfo
  obtain ⟨wa, hwa⟩ : ∃ wa, w.alloc (.cells #[.int .i64 1, S n, .int .i64 p, .slice A 0 c] 42) = wa := ⟨_, rfl⟩
  have ba : Below w.heap.size w wa := by rw [← hwa]; exact (Below.refl _ _).alloc (Nat.le_refl _) _
  have qa : wa.heap[w.heap.size]? = some (.cells #[.int .i64 1, S n, .int .i64 p, .slice A 0 c] 42 (0, 0)) := by rw [← hwa]; exact heap_alloc_new _ _
  obtain ⟨x0, x1, x2, x3⟩ := cells4 qa
  have H0 : Hid (BS w0 w w.heap.size #[.int .i64 1, S n, .int .i64 p, .slice A 0 c] acc wa vb) := Lib.hid ⟨own_below hown ba, KeptU.new ba, hb0.trans (ba.mono hb0.size), qa⟩
  have HIN := Lib.hid (rIn_any q n Aq cq wa hql (hq.below H0.out.bel))
  obtain ⟨Al, cl, rfl⟩ := own_form hown
  have hsz0 := H0.out.bel.size
  clear qa ba hv hown hb0 hA hq
  rw [decide_eq_true hnq] at HIN
  have hlm : acc.length + 1 ≤ maxLen := by unfold maxLen; omega
  have hlb : (acc.length + 1) * 1 ≤ 140737488355328 := by omega
  have hlm2 : (acc ++ [40]).length + (⟨n.toArray⟩ : ByteArray).size ≤ maxLen := by rw [bsize]; simp only [List.length_append, List.length_singleton]; unfold maxLen; omega
  have hlb2 : (acc ++ [40]).length + (⟨n.toArray⟩ : ByteArray).size ≤ 140737488355328 := by rw [bsize]; simp only [List.length_append, List.length_singleton]; omega
  have hlm3 : (acc ++ [40] ++ n).length + 1 ≤ maxLen := by simp only [List.length_append, List.length_singleton]; unfold maxLen; omega
  have hlb3 : ((acc ++ [40] ++ n).length + 1) * 1 ≤ 140737488355328 := by simp only [List.length_append, List.length_singleton]; omega
  have SC := Lib.hid (fun (wx : World) (vx : Value) (ax : List UInt8) (h : BS w0 w w.heap.size #[.int .i64 1, S n, .int .i64 p, .slice A 0 c] ax wx vx) => show wx.cell? ⟨w.heap.size, 1, none⟩ = some (S n) from Lib.cell_of_heap h.box 1)
  clear htx hnq
  go_enter Tryd.func62, Tryd.ntmps62
  go_upto_region 1 with fail
  clear hwa
  go_wp2_with fail
  refine HIN.out.mono ?_
  rintro e w2 ⟨rfl, hw2⟩
  obtain rfl := hw2
  go_wp2_with fail
  go_region_held3 (fun w' => w'.cell? ⟨w.heap.size, 1, none⟩ = some (S n))
      (first | exact SC.out _ _ _ (H0.out.new (Below.refl _ _).drew) | exact SC.out _ _ _ (H0.out.new (((Below.refl _ _).alloc (Nat.le_refl _) _)).drew) | exact SC.out _ _ _ ((H0.out.new ((Below.refl _ _).alloc (Nat.le_refl _) _)).new (((Below.refl _ _).alloc (Nat.le_refl _) _)).drew) | exact SC.out _ _ _ (H1.out) | exact SC.out _ _ _ (H1.out.bs) | exact SC.out _ _ _ (H1.out.new ((Below.refl _ _).alloc (Nat.le_refl _) _)) | exact SC.out _ _ _ (H2.out) | exact SC.out _ _ _ (H2.out.1) | exact SC.out _ _ _ (H2.out.new ((Below.refl _ _).alloc (Nat.le_refl _) _)) | exact SC.out _ _ _ (H3.out))
      (first
        | (refine step_append_own_at _ (by rfl) _ _ 37 (by rfl) w0.heap.size 5 i0 (.int .u8 0) 1 1 Tryd.underlying37 hi0 hz0 hz1 hz2 rfl (by decide) _ _ _ (by rfl) ((H0.out.own.alloc _).drew) ⟨wa.heap.size, 0, none⟩ 1 1 [.int .u8 40] (by rfl) (by rfl) (fun j u h => cell_one_new wa _ 5 j u h) (byte_one 40) hlm hlb (alloc_le hsz0) ?_; intro v1 w1 hown1 hg1 hloc1; have H1 := Lib.hid ((H0.out.new ((((Below.refl _ _).alloc (Nat.le_refl _) _)).drew)).push (bs := [40]) hown1 hg1))
        | (refine step_append_own_at _ (by rfl) _ _ 37 (by rfl) w0.heap.size 5 i0 (.int .u8 0) 1 1 Tryd.underlying37 hi0 hz0 hz1 hz2 rfl (by decide) _ _ _ (by rfl) (((H0.out.own.alloc _).alloc _).drew) ⟨wa.heap.size, 0, none⟩ 1 1 [.int .u8 40] (by rfl) (by rfl) (fun j u h => one_cell (heap_alloc_old _ _ _ _ (heap_alloc_new wa _)) j u h) (byte_one 40) hlm hlb (alloc_le (alloc_le hsz0)) ?_; intro v1 w1 hown1 hg1 hloc1; have H1 := Lib.hid ((((H0.out.new ((Below.refl _ _).alloc (Nat.le_refl _) _)).q41 (wa.heap.size + 1) (by simp)).new (Below.refl _ _).drew).push (bs := [40]) hown1 hg1 hloc1))
        | (refine step_append_own_at _ (by rfl) _ _ 37 (by rfl) w0.heap.size 5 i0 (.int .u8 0) 1 1 Tryd.underlying37 hi0 hz0 hz1 hz2 rfl (by decide) _ _ _ (by rfl) (((H0.out.own.alloc _).alloc _).drew) ⟨wa.heap.size + 1, 0, none⟩ 1 1 [.int .u8 40] (by rfl) (by rfl) (fun j u h => cells_new (wa.alloc (.cells #[.int .u8 41] 5)) _ (by simp) [.int .u8 40] 5 j u h) (byte_one 40) hlm hlb (alloc_le (alloc_le hsz0)) ?_; intro v1 w1 hown1 hg1 hloc1; have H1 := Lib.hid ((((H0.out.q41 wa.heap.size rfl).new ((Below.refl _ _).alloc (Nat.le_refl _) _)).new (Below.refl _ _).drew).push (bs := [40]) hown1 hg1 hloc1))
        | (refine step_append_strB _ (by rfl) _ _ 37 9 (by rfl) w0.heap.size 5 i0 Tryd.underlying37 Tryd.underlying9 hi0 hz0 hz1 hz2 _ _ _ (by rfl) H1.out.own ⟨n.toArray⟩ (by rfl) hlm2 hlb2 H1.out.bel.size ?_; intro v2 w2 hown2 hg2; have H2 := Lib.hid (H1.out.pushS hown2 hg2))
        | (refine step_append_strB _ (by rfl) _ _ 37 9 (by rfl) w0.heap.size 5 i0 Tryd.underlying37 Tryd.underlying9 hi0 hz0 hz1 hz2 _ _ _ (by rfl) (H1.out.own.alloc _) ⟨n.toArray⟩ (by rfl) hlm2 hlb2 (alloc_le H1.out.bel.size) ?_; intro v2 w2 hown2 hg2; have H2 := Lib.hid ((H1.out.q41 w1.heap.size rfl).pushS hown2 hg2))
        | (refine step_append_strB _ (by rfl) _ _ 37 9 (by rfl) w0.heap.size 5 i0 Tryd.underlying37 Tryd.underlying9 hi0 hz0 hz1 hz2 _ _ _ (by rfl) H1.out.bs.own ⟨n.toArray⟩ (by rfl) hlm2 hlb2 H1.out.bs.bel.size ?_; intro v2 w2 hown2 hg2; have H2 := Lib.hid (H1.out.pushS hown2 hg2))
        | (refine step_append_own_at _ (by rfl) _ _ 37 (by rfl) w0.heap.size 5 i0 (.int .u8 0) 1 1 Tryd.underlying37 hi0 hz0 hz1 hz2 rfl (by decide) _ _ _ (by rfl) (H2.out.own.alloc _) ⟨w2.heap.size, 0, none⟩ 1 1 [.int .u8 41] (by rfl) (by rfl) (fun j u h => cell_one_new w2 _ 5 j u h) (byte_one 41) hlm3 hlb3 (alloc_le H2.out.bel.size) ?_; intro v3 w3 hown3 hg3 hloc3; have H3 := Lib.hid ((H2.out.new ((Below.refl _ _).alloc (Nat.le_refl _) _)).push (bs := [41]) hown3 hg3))
        | (refine step_append_own_at _ (by rfl) _ _ 37 (by rfl) w0.heap.size 5 i0 (.int .u8 0) 1 1 Tryd.underlying37 hi0 hz0 hz1 hz2 rfl (by decide) _ _ _ (by rfl) H2.out.1.own _ 1 1 [.int .u8 41] (by rfl) (by rfl) (fun j u h => one_cell H2.out.2 j u h) (byte_one 41) hlm3 hlb3 H2.out.1.bel.size ?_; intro v3 w3 hown3 hg3 hloc3; have H3 := Lib.hid (H2.out.1.push (bs := [41]) hown3 hg3)))
  all_goals
    go_wp2_with fail
    go_ret
    refine ⟨_, rfl, ?_, H3.out.kept, H3.out.bel⟩
    have := H3.out.own
    rw [List.append_assoc, List.append_assoc, ← List.append_assoc [40]] at this
    exact this

theorem rfmt_upto (w0 : World) (q : List (List UInt8)) (Aq : Option Addr) (cq : Nat) (hq : NamesAt w0 Aq q) (hql : q.length ≤ 1000000000) (m : Nat) : RFmtUpto w0 q Aq cq m := by
  induction m with
  | zero => intro t v w acc vb h; have := t.size_pos; omega
  | succ m ih =>
    intro t v w acc vb hsz hform hv hb0 hown hl
    obtain ⟨k, n, p, ts⟩ := t
    simp only [Lfc.Raw.size] at hsz
    rw [Lfc.Raw.form, Bool.and_eq_true] at hform
    obtain ⟨hfd, hfs⟩ := hform
    have hk := formed_cases hfd
    by_cases h1 : k = 1 ∨ k = 2 ∨ k = 3 ∨ k = 4
    · have : ts = [] := List.length_eq_zero_iff.1 (by omega)
      subst this
      by_cases hn : k = 1 ∧ n ∈ q
      · obtain ⟨rfl, hn⟩ := hn
        exact rfmt_quoted w0 q Aq cq hq hql p n hn v w acc vb hv hb0 hown hl
      · refine rfmt_leaf w0 q Aq cq hq hql k p n ?_ v w acc vb hv hb0 hown hl
        rcases h1 with rfl | h1
        · exact .inl ⟨rfl, fun h => hn ⟨rfl, h⟩⟩
        · exact .inr h1
    by_cases h2 : k = 7 ∨ k = 8
    · match ts, (show ts.length = 1 ∨ ts.length = 2 by omega) with
      | [a], _ =>
        rcases h2 with rfl | rfl
        · exact rfmt_b1k7 w0 q Aq cq m ih p n a (by omega) hfs v w acc vb hv hb0 hown hl
        · exact rfmt_b1k8 w0 q Aq cq m ih p n a (by omega) hfs v w acc vb hv hb0 hown hl
      | [a, a'], _ =>
        rcases h2 with rfl | rfl
        · exact rfmt_b2k7 w0 q Aq cq m ih p n a a' (by omega) hfs v w acc vb hv hb0 hown hl
        · exact rfmt_b2k8 w0 q Aq cq m ih p n a a' (by omega) hfs v w acc vb hv hb0 hown hl
      | [], h0 => simp at h0
      | _ :: _ :: _ :: _, h0 => simp at h0
    match ts, (show ts.length = 2 by omega) with
    | [a, a'], _ =>
      simp only [Lfc.Raw.sizes, Nat.add_zero] at hsz
      simp only [Lfc.Raw.forms, Bool.and_true, Bool.and_eq_true] at hfs
      exact rfmt_two w0 q Aq cq m ih k p n (by omega) a a' (by omega) hfs.1 hfs.2 v w acc vb hv hb0 hown hl
    | [], h0 => simp at h0
    | [_], h0 => simp at h0
    | _ :: _ :: _ :: _, h0 => simp at h0

set_option maxRecDepth 100000 in
set_option maxHeartbeats 2000000 in
theorem rFormat_any (t : Lfc.Raw) (v : Value) (q : List (List UInt8)) (Aq : Option Addr) (cq : Nat) (w : World) (hmax : t.size ≤ 1000000000) (hv : TreeV w t v) (hql : q.length ≤ 1000000000) (hq : NamesAt w Aq q) :
    Calls Tryd.prog 33 #[v, .slice Aq q.length cq] w fun e w' => e = .returned (S (t.fmt q)) ∧ Below w.heap.size w w' := by
  have hshort := hv.short
  obtain ⟨A, c, kd, nm, ps, ts, hT, rfl, hc, hA⟩ : ∃ A c kd nm ps ts, t = .node kd nm ps ts ∧ v = .agg #[.int .i64 kd, S nm, .int .i64 ps, .slice A ts.length c] ∧ ts.length ≤ c ∧ TreesAt w A ts := by
    obtain ⟨kd, nm, ps, ts⟩ := t
    obtain ⟨A, c, rfl, hc, hA⟩ := hv.open_
    exact ⟨A, c, kd, nm, ps, ts, rfl, rfl, hc, hA⟩
  clear hT hA
  obtain ⟨w1, hw1⟩ : ∃ w1, w.alloc (.cells #[.int .i64 kd, S nm, .int .i64 ps, .slice A ts.length c] 42) = w1 := ⟨_, rfl⟩
  have b01 : Below w.heap.size w w1 := by rw [← hw1]; exact (Below.refl _ _).alloc (Nat.le_refl _) _
  have s1 := eq2 (show w1.heap.size = w.heap.size + 1 by rw [← hw1]; simp)
  have q1 : w1.heap[w.heap.size]? = some (.cells #[.int .i64 kd, S nm, .int .i64 ps, .slice A ts.length c] 42 (0, 0)) := by rw [← hw1]; exact heap_alloc_new _ _
  obtain ⟨y0, y1, y2, y3⟩ := cells4 q1
  have Q1 := Lib.hid q1
  have HV := Lib.hid (hv.below b01)
  have HQ := Lib.hid (hq.below b01)
  have HWF := Lib.hid (rWf_any t _ w1 hmax HV.out)
  clear hv q1 hq
  by_cases hz : t.wf = 0
  · have hf : t.fmt q = t.text q := if_pos hz
    rw [hf]
    rw [hz] at HWF
    obtain ⟨hfm, hsz, _⟩ := Lfc.wf_zero hz
    have hlen := Lfc.text_len q 1000000 t hshort
    have hlen2 : t.size * (1000000 + 20) ≤ 4096 * 1000020 := Nat.mul_le_mul_right _ hsz
    clear hf hz
    go_enter Tryd.func33, Tryd.ntmps33
    go_upto_region 1 with fail
    clear hw1
    go_wp2_with fail
    refine HWF.out.mono ?_
    rintro e w2 ⟨rfl, hb2⟩
    have hs2 := hb2.size
    obtain ⟨z0, z1, z2, z3⟩ := cells4 ((hb2.block _ (by omega)).trans Q1.out)
    have HF := Lib.hid (show Calls Tryd.prog 62 #[.slice none 0 0, .agg #[.int .i64 kd, S nm, .int .i64 ps, .slice A ts.length c], .slice Aq q.length cq] w2 _ from rfmt_upto w2 q Aq cq (HQ.out.below hb2) hql t.size t _ w2 [] (.slice none 0 0) (Nat.le_refl _) hfm (HV.out.below hb2) (Below.refl _ _) (own_nil _ _ _ _) (by simp only [List.length_nil]; omega))
    clear y0 y1 y2 y3
    go_wp2_with fail
    refine HF.out.mono ?_
    rintro e w5 ⟨v5, rfl, hown5, hg5, hb5⟩
    rw [List.nil_append] at hown5
    obtain ⟨A5, c5, rfl⟩ := own_form hown5
    have HB5 := Lib.hid hb5
    generalize hTX : t.text q = TX at *
    have hconv := own_string Tryd.underlying37 Tryd.underlying5 Tryd.underlying9 hown5
    have HTX := Lib.hid hTX
    clear hown5 hg5 hb5 hTX
    go_wp2_with fail
    go_ret
    exact ⟨by rw [HTX.out]; rfl, b01.trans ((hb2.mono (by omega)).trans (HB5.out.mono (by omega)))⟩
  · have hf : t.fmt q = [] := if_neg hz
    rw [hf]
    have hg : (t.wf != 0) = true := by simpa using hz
    generalize t.wf = f at *
    clear hf hz
    go_enter Tryd.func33, Tryd.ntmps33
    go_upto_region 1 with fail
    clear hw1
    go_wp2_with fail
    refine HWF.out.mono ?_
    rintro e w2 ⟨rfl, hb2⟩
    go_wp2_with fail
    go_ret
    exact ⟨rfl, b01.trans (hb2.mono (by omega))⟩
end Go.Proofs.YtmdhkcefbkdkbaaDoor
