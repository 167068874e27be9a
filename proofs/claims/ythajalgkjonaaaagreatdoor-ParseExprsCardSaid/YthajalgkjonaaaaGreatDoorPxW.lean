/- Parts of the proof that no input makes the law false: RawRFmt4, PaAw, PaAk, RawTextP, PaLex, PaExp. -/
import Derived.Test.YthajalgkjonaaaaGreatDoorPxA
import Derived.Test.YthajalgkjonaaaaGreatDoorPxC
import Derived.Test.YthajalgkjonaaaaGreatDoorPxN
import Derived.Test.YthajalgkjonaaaaGreatDoorPxT
import Derived.Test.YthajalgkjonaaaaGreatDoorPxU
import Derived.Test.YthajalgkjonaaaaGreatDoorPxV
set_option linter.unusedVariables false
set_option linter.unusedSimpArgs false
namespace Go.Proofs.YthajalgkjonaaaaGreatDoor
open Go.RowKit Go.Maps Go.WideMaps
theorem own_block_lt {w : World} {base : Nat} {e : TypeId} {size n : Nat} {v : Value} {xs : List Value} (h : w.ownsRow base e size v n xs) : ∀ k, v.ownBlock = some k → k < w.heap.size := by
 rcases h.2 with ⟨rfl, rfl⟩ | ⟨g, cap, cur, rfl, _, hg, _⟩
 ·intro k hk; cases hk
 ·intro k hk; cases hk; exact lt_of_block hg
structure BQ (w0 : World) (w : World) (R : Nat) (box : Array Value) (acc : List UInt8) (wr : World) (vr : Value) (B : Nat) : Prop where
 bs : BS w0 w R box acc wr vr
 q : wr.heap[B]? = some (.cells #[.int .u8 41] 5 (0, 0))
 ne : vr.ownBlock ≠ some B
theorem BS.q41 {w0 w wr : World} {vr : Value} {R : Nat} {box : Array Value} {acc : List UInt8} (h : BS w0 w R box acc wr vr) (B : Nat) (hB : B = wr.heap.size) : BQ w0 w R box acc (wr.alloc (.cells #[.int .u8 41] 5)) vr B := by
 subst hB
 exact ⟨h.new ((Below.refl _ _).alloc (Nat.le_refl _) _), heap_alloc_new _ _, fun e => absurd (own_block_lt h.own _ e) (by omega)⟩
theorem BQ.new {w0 w wr w2 : World} {vr : Value} {R B : Nat} {box : Array Value} {acc : List UInt8} (h : BQ w0 w R box acc wr vr B) (hb : Below wr.heap.size wr w2) : BQ w0 w R box acc w2 vr B :=
 ⟨h.bs.new hb, (hb.block _ (lt_of_block h.q)).trans h.q, h.ne⟩
theorem BQ.push {w0 w wr w2 : World} {vr v' : Value} {R B : Nat} {box : Array Value} {acc bs : List UInt8} (h : BQ w0 w R box acc wr vr B) (hown2 : w2.ownsRow w0.heap.size 5 1 v' (acc.length + bs.length) (Lib.byteCells acc ++ Lib.byteCells bs)) (hg2 : wr.grownBy w2 vr.ownBlock) (hloc : v'.ownBlock = vr.ownBlock ∨ v'.ownBlock = some wr.heap.size) : BQ w0 w R box (acc ++ bs) w2 v' B := by
 refine ⟨h.bs.push hown2 hg2, (hg2.block _ (lt_of_block h.q) (fun e => h.ne e.symm)).trans h.q, ?_⟩
 have hlt := lt_of_block h.q
 rcases hloc with e | e
 ·rw [e]; exact h.ne
 ·rw [e]; intro e2; injection e2 with e2; omega
theorem BQ.pushS {w0 w wr w2 : World} {vr v' : Value} {R B : Nat} {box : Array Value} {acc bs : List UInt8} (h : BQ w0 w R box acc wr vr B) (hown2 : w2.ownsRow w0.heap.size 5 1 v' (acc.length + (⟨bs.toArray⟩ : ByteArray).size) (Lib.byteCells acc ++ Lib.strCells ⟨bs.toArray⟩)) (hg2 : wr.grownBy w2 vr.ownBlock) : BS w0 w R box (acc ++ bs) w2 v' ∧ w2.heap[B]? = some (.cells #[.int .u8 41] 5 (0, 0)) :=
 ⟨h.bs.pushS hown2 hg2, (hg2.block _ (lt_of_block h.q) (fun e => h.ne e.symm)).trans h.q⟩
theorem one_cell {w : World} {B : Nat} {x : Value} {t : TypeId} (h : w.heap[B]? = some (.cells #[x] t (0, 0))) (j : Nat) (u : Value) (hu : [x][j]? = some u) : w.cell? ((⟨B, 0, none⟩ : Addr).add j) = some u := by
 rw [addr_add, cell_of_row _ _ j #[x] t (0, 0) h]
 simpa using hu
set_option maxRecDepth 100000 in
set_option maxHeartbeats 4000000 in
theorem rfmt_quoted (w0 : World) (q : List (List UInt8)) (Aq : Option Addr) (cq : Nat) (hq : NamesAt w0 Aq q) (hql : q.length ≤ 1000000000) (p : Int) (n : List UInt8) (hnq : n ∈ q) (v : Value) (w : World) (acc : List UInt8) (vb : Value) (hv : TreeV w0 (.node 1 n p []) v) (hb0 : Below w0.heap.size w0 w) (hown : w.ownsRow w0.heap.size 5 1 vb acc.length (Lib.byteCells acc)) (hl : acc.length + ((Lfc.Raw.node 1 n p []).text q).length ≤ 10000000000) :
  Calls Tryz.prog 38 #[vb, v, .slice Aq q.length cq] w fun e w' => ∃ vb', e = .returned vb' ∧ w'.ownsRow w0.heap.size 5 1 vb' (acc ++ (Lfc.Raw.node 1 n p []).text q).length (Lib.byteCells (acc ++ (Lfc.Raw.node 1 n p []).text q)) ∧ KeptU w w' ∧ Below w0.heap.size w0 w' := by
 have htx : (Lfc.Raw.node 1 n p []).text q = [40] ++ n ++ [41] := by simp [Lfc.Raw.text, Lfc.putText, hnq]
 rw [htx] at hl ⊢
 simp only [List.length_append, List.length_singleton] at hl
 obtain ⟨A, c, rfl, hc, hA⟩ := hv.open_
 simp only [List.length_nil] at *
 obtain ⟨i0, hi0, hz0, hz1, hz2⟩ := info_parts byteInfo
 obtain ⟨wa, hwa⟩ : ∃ wa, w.alloc (.cells #[.int .i64 1, S n, .int .i64 p, .slice A 0 c] 46) = wa := ⟨_, rfl⟩
 have ba : Below w.heap.size w wa := by rw [← hwa]; exact (Below.refl _ _).alloc (Nat.le_refl _) _
 have qa : wa.heap[w.heap.size]? = some (.cells #[.int .i64 1, S n, .int .i64 p, .slice A 0 c] 46 (0, 0)) := by rw [← hwa]; exact heap_alloc_new _ _
 obtain ⟨x0, x1, x2, x3⟩ := cells4 qa
 have H0 : Hid (BS w0 w w.heap.size #[.int .i64 1, S n, .int .i64 p, .slice A 0 c] acc wa vb) := Lib.hid ⟨own_below hown ba, KeptU.new ba, hb0.trans (ba.mono hb0.size), qa⟩
 have HIN := Lib.hid (rIn_any q n Aq cq wa hql (hq.below H0.out.bel))
 obtain ⟨Al, cl, rfl⟩ := own_form hown
 have hsz0 := H0.out.bel.size
 clear qa ba hv hown hb0 hA hq
 rw [decide_eq_true hnq] at HIN
 have hlm : acc.length + 1 ≤ maxLen := by unfold maxLen; omega
 have hlb : (acc.length + 1) * 1 ≤ 140737488355328 := by omega
 have hlm2 : (acc ++ [40]).length + (⟨n.toArray⟩ : ByteArray).size ≤ maxLen := by rw [bsize]; simp only [List.length_append, List.length_singleton]; unfold maxLen; omega
 have hlb2 : (acc ++ [40]).length + (⟨n.toArray⟩ : ByteArray).size ≤ 140737488355328 := by rw [bsize]; simp only [List.length_append, List.length_singleton]; omega
 have hlm3 : (acc ++ [40] ++ n).length + 1 ≤ maxLen := by simp only [List.length_append, List.length_singleton]; unfold maxLen; omega
 have hlb3 : ((acc ++ [40] ++ n).length + 1) * 1 ≤ 140737488355328 := by simp only [List.length_append, List.length_singleton]; omega
 have SC := Lib.hid (fun (wx : World) (vx : Value) (ax : List UInt8) (h : BS w0 w w.heap.size #[.int .i64 1, S n, .int .i64 p, .slice A 0 c] ax wx vx) => show wx.cell? ⟨w.heap.size, 1, none⟩ = some (S n) from Lib.cell_of_heap h.box 1)
 clear htx hnq
 go_enter Tryz.func38, Tryz.ntmps38
 go_upto_region 1 with fail
 clear hwa
 go_wp2_with fail
 refine HIN.out.mono ?_
 rintro e w2 ⟨rfl, hw2⟩
 obtain rfl := hw2
 go_wp2_with fail
 go_region_held3 (fun w' => w'.cell? ⟨w.heap.size, 1, none⟩ = some (S n))
   (first | exact SC.out _ _ _ (H0.out.new (Below.refl _ _).drew) | exact SC.out _ _ _ (H0.out.new (((Below.refl _ _).alloc (Nat.le_refl _) _)).drew) | exact SC.out _ _ _ ((H0.out.new ((Below.refl _ _).alloc (Nat.le_refl _) _)).new (((Below.refl _ _).alloc (Nat.le_refl _) _)).drew) | exact SC.out _ _ _ (H1.out) | exact SC.out _ _ _ (H1.out.bs) | exact SC.out _ _ _ (H1.out.new ((Below.refl _ _).alloc (Nat.le_refl _) _)) | exact SC.out _ _ _ (H2.out) | exact SC.out _ _ _ (H2.out.1) | exact SC.out _ _ _ (H2.out.new ((Below.refl _ _).alloc (Nat.le_refl _) _)) | exact SC.out _ _ _ (H3.out))
   (first
    | (refine step_append_own_at _ (by rfl) _ _ 68 (by rfl) w0.heap.size 5 i0 (.int .u8 0) 1 1 Tryz.underlying68 hi0 hz0 hz1 hz2 rfl (by decide) _ _ _ (by rfl) ((H0.out.own.alloc _).drew) ⟨wa.heap.size, 0, none⟩ 1 1 [.int .u8 40] (by rfl) (by rfl) (fun j u h => cell_one_new wa _ 5 j u h) (byte_one 40) hlm hlb (alloc_le hsz0) ?_; intro v1 w1 hown1 hg1 hloc1; have H1 := Lib.hid ((H0.out.new ((((Below.refl _ _).alloc (Nat.le_refl _) _)).drew)).push (bs := [40]) hown1 hg1))
    | (refine step_append_own_at _ (by rfl) _ _ 68 (by rfl) w0.heap.size 5 i0 (.int .u8 0) 1 1 Tryz.underlying68 hi0 hz0 hz1 hz2 rfl (by decide) _ _ _ (by rfl) (((H0.out.own.alloc _).alloc _).drew) ⟨wa.heap.size, 0, none⟩ 1 1 [.int .u8 40] (by rfl) (by rfl) (fun j u h => one_cell (heap_alloc_old _ _ _ _ (heap_alloc_new wa _)) j u h) (byte_one 40) hlm hlb (alloc_le (alloc_le hsz0)) ?_; intro v1 w1 hown1 hg1 hloc1; have H1 := Lib.hid ((((H0.out.new ((Below.refl _ _).alloc (Nat.le_refl _) _)).q41 (wa.heap.size + 1) (by simp)).new (Below.refl _ _).drew).push (bs := [40]) hown1 hg1 hloc1))
    | (refine step_append_own_at _ (by rfl) _ _ 68 (by rfl) w0.heap.size 5 i0 (.int .u8 0) 1 1 Tryz.underlying68 hi0 hz0 hz1 hz2 rfl (by decide) _ _ _ (by rfl) (((H0.out.own.alloc _).alloc _).drew) ⟨wa.heap.size + 1, 0, none⟩ 1 1 [.int .u8 40] (by rfl) (by rfl) (fun j u h => cells_new (wa.alloc (.cells #[.int .u8 41] 5)) _ (by simp) [.int .u8 40] 5 j u h) (byte_one 40) hlm hlb (alloc_le (alloc_le hsz0)) ?_; intro v1 w1 hown1 hg1 hloc1; have H1 := Lib.hid ((((H0.out.q41 wa.heap.size rfl).new ((Below.refl _ _).alloc (Nat.le_refl _) _)).new (Below.refl _ _).drew).push (bs := [40]) hown1 hg1 hloc1))
    | (refine step_append_strB _ (by rfl) _ _ 68 9 (by rfl) w0.heap.size 5 i0 Tryz.underlying68 Tryz.underlying9 hi0 hz0 hz1 hz2 _ _ _ (by rfl) H1.out.own ⟨n.toArray⟩ (by rfl) hlm2 hlb2 H1.out.bel.size ?_; intro v2 w2 hown2 hg2; have H2 := Lib.hid (H1.out.pushS hown2 hg2))
    | (refine step_append_strB _ (by rfl) _ _ 68 9 (by rfl) w0.heap.size 5 i0 Tryz.underlying68 Tryz.underlying9 hi0 hz0 hz1 hz2 _ _ _ (by rfl) (H1.out.own.alloc _) ⟨n.toArray⟩ (by rfl) hlm2 hlb2 (alloc_le H1.out.bel.size) ?_; intro v2 w2 hown2 hg2; have H2 := Lib.hid ((H1.out.q41 w1.heap.size rfl).pushS hown2 hg2))
    | (refine step_append_strB _ (by rfl) _ _ 68 9 (by rfl) w0.heap.size 5 i0 Tryz.underlying68 Tryz.underlying9 hi0 hz0 hz1 hz2 _ _ _ (by rfl) H1.out.bs.own ⟨n.toArray⟩ (by rfl) hlm2 hlb2 H1.out.bs.bel.size ?_; intro v2 w2 hown2 hg2; have H2 := Lib.hid (H1.out.pushS hown2 hg2))
    | (refine step_append_own_at _ (by rfl) _ _ 68 (by rfl) w0.heap.size 5 i0 (.int .u8 0) 1 1 Tryz.underlying68 hi0 hz0 hz1 hz2 rfl (by decide) _ _ _ (by rfl) (H2.out.own.alloc _) ⟨w2.heap.size, 0, none⟩ 1 1 [.int .u8 41] (by rfl) (by rfl) (fun j u h => cell_one_new w2 _ 5 j u h) (byte_one 41) hlm3 hlb3 (alloc_le H2.out.bel.size) ?_; intro v3 w3 hown3 hg3 hloc3; have H3 := Lib.hid ((H2.out.new ((Below.refl _ _).alloc (Nat.le_refl _) _)).push (bs := [41]) hown3 hg3))
    | (refine step_append_own_at _ (by rfl) _ _ 68 (by rfl) w0.heap.size 5 i0 (.int .u8 0) 1 1 Tryz.underlying68 hi0 hz0 hz1 hz2 rfl (by decide) _ _ _ (by rfl) H2.out.1.own _ 1 1 [.int .u8 41] (by rfl) (by rfl) (fun j u h => one_cell H2.out.2 j u h) (byte_one 41) hlm3 hlb3 H2.out.1.bel.size ?_; intro v3 w3 hown3 hg3 hloc3; have H3 := Lib.hid (H2.out.1.push (bs := [41]) hown3 hg3)))
 all_goals
  go_wp2_with fail
  go_ret
  refine ⟨_, rfl, ?_, H3.out.kept, H3.out.bel⟩
  have := H3.out.own
  rw [List.append_assoc, List.append_assoc, ← List.append_assoc [40]] at this
  exact this
theorem rfmt_upto (w0 : World) (q : List (List UInt8)) (Aq : Option Addr) (cq : Nat) (hq : NamesAt w0 Aq q) (hql : q.length ≤ 1000000000) (m : Nat) : RFmtUpto w0 q Aq cq m := by
 induction m with
 | zero => intro t v w acc vb h; have := t.size_pos; omega
 | succ m ih =>
  intro t v w acc vb hsz hform hv hb0 hown hl
  obtain ⟨k, n, p, ts⟩ := t
  simp only [Lfc.Raw.size] at hsz
  rw [Lfc.Raw.form, Bool.and_eq_true] at hform
  obtain ⟨hfd, hfs⟩ := hform
  have hk := formed_cases hfd
  by_cases h1 : k = 1 ∨ k = 2 ∨ k = 3 ∨ k = 4
  ·have : ts = [] := List.length_eq_zero_iff.1 (by omega)
   subst this
   by_cases hn : k = 1 ∧ n ∈ q
   ·obtain ⟨rfl, hn⟩ := hn
    exact rfmt_quoted w0 q Aq cq hq hql p n hn v w acc vb hv hb0 hown hl
   ·refine rfmt_leaf w0 q Aq cq hq hql k p n ?_ v w acc vb hv hb0 hown hl
    rcases h1 with rfl | h1
    ·exact .inl ⟨rfl, fun h => hn ⟨rfl, h⟩⟩
    ·exact .inr h1
  by_cases h2 : k = 7 ∨ k = 8
  ·match ts, (show ts.length = 1 ∨ ts.length = 2 by omega) with
   | [a], _ =>
    rcases h2 with rfl | rfl
    ·exact rfmt_b1k7 w0 q Aq cq m ih p n a (by omega) hfs v w acc vb hv hb0 hown hl
    ·exact rfmt_b1k8 w0 q Aq cq m ih p n a (by omega) hfs v w acc vb hv hb0 hown hl
   | [a, a'], _ =>
    rcases h2 with rfl | rfl
    ·exact rfmt_b2k7 w0 q Aq cq m ih p n a a' (by omega) hfs v w acc vb hv hb0 hown hl
    ·exact rfmt_b2k8 w0 q Aq cq m ih p n a a' (by omega) hfs v w acc vb hv hb0 hown hl
   | [], h0 => simp at h0
   | _ :: _ :: _ :: _, h0 => simp at h0
  match ts, (show ts.length = 2 by omega) with
  | [a, a'], _ =>
   simp only [Lfc.Raw.sizes, Nat.add_zero] at hsz
   simp only [Lfc.Raw.forms, Bool.and_true, Bool.and_eq_true] at hfs
   exact rfmt_two w0 q Aq cq m ih k p n (by omega) a a' (by omega) hfs.1 hfs.2 v w acc vb hv hb0 hown hl
  | [], h0 => simp at h0
  | [_], h0 => simp at h0
  | _ :: _ :: _ :: _, h0 => simp at h0
set_option maxRecDepth 100000 in
set_option maxHeartbeats 2000000 in
theorem rFormat_any (t : Lfc.Raw) (v : Value) (q : List (List UInt8)) (Aq : Option Addr) (cq : Nat) (w : World) (hmax : t.size ≤ 1000000000) (hv : TreeV w t v) (hql : q.length ≤ 1000000000) (hq : NamesAt w Aq q) :
  Calls Tryz.prog 16 #[v, .slice Aq q.length cq] w fun e w' => e = .returned (S (t.fmt q)) ∧ Below w.heap.size w w' := by
 have hshort := hv.short
 obtain ⟨A, c, kd, nm, ps, ts, hT, rfl, hc, hA⟩ : ∃ A c kd nm ps ts, t = .node kd nm ps ts ∧ v = .agg #[.int .i64 kd, S nm, .int .i64 ps, .slice A ts.length c] ∧ ts.length ≤ c ∧ TreesAt w A ts := by
  obtain ⟨kd, nm, ps, ts⟩ := t
  obtain ⟨A, c, rfl, hc, hA⟩ := hv.open_
  exact ⟨A, c, kd, nm, ps, ts, rfl, rfl, hc, hA⟩
 clear hT hA
 obtain ⟨w1, hw1⟩ : ∃ w1, w.alloc (.cells #[.int .i64 kd, S nm, .int .i64 ps, .slice A ts.length c] 46) = w1 := ⟨_, rfl⟩
 have b01 : Below w.heap.size w w1 := by rw [← hw1]; exact (Below.refl _ _).alloc (Nat.le_refl _) _
 have s1 := eq2 (show w1.heap.size = w.heap.size + 1 by rw [← hw1]; simp)
 have q1 : w1.heap[w.heap.size]? = some (.cells #[.int .i64 kd, S nm, .int .i64 ps, .slice A ts.length c] 46 (0, 0)) := by rw [← hw1]; exact heap_alloc_new _ _
 obtain ⟨y0, y1, y2, y3⟩ := cells4 q1
 have Q1 := Lib.hid q1
 have HV := Lib.hid (hv.below b01)
 have HQ := Lib.hid (hq.below b01)
 have HWF := Lib.hid (rWf_any t _ w1 hmax HV.out)
 clear hv q1 hq
 by_cases hz : t.wf = 0
 ·have hf : t.fmt q = t.text q := if_pos hz
  rw [hf]
  rw [hz] at HWF
  obtain ⟨hfm, hsz, _⟩ := Lfc.wf_zero hz
  have hlen := Lfc.text_len q 1000000 t hshort
  have hlen2 : t.size * (1000000 + 20) ≤ 4096 * 1000020 := Nat.mul_le_mul_right _ hsz
  clear hf hz
  go_enter Tryz.func16, Tryz.ntmps16
  go_upto_region 1 with fail
  clear hw1
  go_wp2_with fail
  refine HWF.out.mono ?_
  rintro e w2 ⟨rfl, hb2⟩
  have hs2 := hb2.size
  obtain ⟨z0, z1, z2, z3⟩ := cells4 ((hb2.block _ (by omega)).trans Q1.out)
  have HF := Lib.hid (show Calls Tryz.prog 38 #[.slice none 0 0, .agg #[.int .i64 kd, S nm, .int .i64 ps, .slice A ts.length c], .slice Aq q.length cq] w2 _ from rfmt_upto w2 q Aq cq (HQ.out.below hb2) hql t.size t _ w2 [] (.slice none 0 0) (Nat.le_refl _) hfm (HV.out.below hb2) (Below.refl _ _) (own_nil _ _ _ _) (by simp only [List.length_nil]; omega))
  clear y0 y1 y2 y3
  go_wp2_with fail
  refine HF.out.mono ?_
  rintro e w5 ⟨v5, rfl, hown5, hg5, hb5⟩
  rw [List.nil_append] at hown5
  obtain ⟨A5, c5, rfl⟩ := own_form hown5
  have HB5 := Lib.hid hb5
  generalize hTX : t.text q = TX at *
  have hconv := own_string Tryz.underlying68 Tryz.underlying5 Tryz.underlying9 hown5
  have HTX := Lib.hid hTX
  clear hown5 hg5 hb5 hTX
  go_wp2_with fail
  go_ret
  exact ⟨by rw [HTX.out]; rfl, b01.trans ((hb2.mono (by omega)).trans (HB5.out.mono (by omega)))⟩
 ·have hf : t.fmt q = [] := if_neg hz
  rw [hf]
  have hg : (t.wf != 0) = true := by simpa using hz
  generalize t.wf = f at *
  clear hf hz
  go_enter Tryz.func16, Tryz.ntmps16
  go_upto_region 1 with fail
  clear hw1
  go_wp2_with fail
  refine HWF.out.mono ?_
  rintro e w2 ⟨rfl, hb2⟩
  go_wp2_with fail
  go_ret
  exact ⟨rfl, b01.trans (hb2.mono (by omega))⟩
end Go.Proofs.YthajalgkjonaaaaGreatDoor
namespace Lfc
def aw1 : List UInt8 := [37, 105, 110, 102, 105, 120, 32, 108, 101, 102, 116, 32, 49, 48, 32, 43, 46, 32, 97, 32, 58, 32, 98, 32, 43, 32, 99, 32, 45, 62, 32, 116, 121, 112, 101, 46]
def aw2 : List UInt8 := [97, 32, 98, 46]
def aw3 : List UInt8 := [97, 32, 43, 32, 98]
def awO : Op := ⟨[43], 4, 10⟩
def awT : Raw := .node 6 [] 28 [.node 5 [] 24 [.node 5 [] 24 [.node 1 [43] 24 [], .node 1 [98] 22 []], .node 1 [99] 26 []], .node 4 [] 31 []]
def awI1 : Itm := { Itm.new 0 with kind := 3, op := awO }
def awI2 : Itm := { Itm.new 18 with kind := 1, name := [97], type := [awT] }
theorem aw_1 : extendP [] aw1 = .ok ([awI1, awI2], [awO]) 13 := by rfl
theorem aw_2 : extendP [] aw2 = .err 20 2 := by rfl
theorem aw_3 : ∃ t k, exprAll [awO] aw3 = .ok t k := ⟨_, _, rfl⟩
theorem aw_4 : awT.fmt [] = [40, 40, 40, 43, 32, 98, 41, 32, 99, 41, 32, 45, 62, 32, 116, 121, 112, 101, 41] := by rfl
theorem aw_5 : wfItems [awI1, awI2] = 0 := by rfl
theorem aw_6 : 0 < (formatP [awI1, awI2]).length := by
 unfold formatP
 rw [if_pos aw_5, fmtIts]
 simp only [List.length_append, List.length_cons]
 omega
theorem aw_s1 : awI1.Sm := ⟨by decide, by decide, by decide, by decide, by decide, by decide, by decide, by decide, by simp [awI1, Itm.new], by simp [awI1, Itm.new], by simp [awI1, Itm.new], by simp [awI1, Itm.new, Ord.nil, Ord.size, Ord.sizes], by simp [awI1, Itm.new, Ord.nil, Ord.size, Ord.sizes], by simp [awI1, Itm.new, Itm.trees]⟩
theorem aw_s2 : awI2.Sm := ⟨by decide, by decide, by decide, by decide, by decide, by decide, by decide, by decide, by simp [awI2, Itm.new], by simp [awI2, Itm.new], by simp [awI2, Itm.new], by simp [awI2, Itm.new, Ord.nil, Ord.size, Ord.sizes], by simp [awI2, Itm.new, Ord.nil, Ord.size, Ord.sizes], by simp [awI2, Itm.new, Itm.trees, awT, Raw.size, Raw.sizes]⟩
theorem fmt_len (q : List (List UInt8)) (s : Nat) (t : Raw) (h : t.short s) : (t.fmt q).length ≤ t.size * (s + 20) := by
 unfold Raw.fmt
 split
 ·exact text_len q s t h
 ·simp
end Lfc
namespace Go.Proofs.YthajalgkjonaaaaGreatDoor
open Go.RowKit
theorem pok_lex {s : List UInt8} (h : (Lfc.lex s).2.1 = 0) {l : List Lfc.Op} (hl : l.length ≤ 1000000) : POk ⟨(Lfc.lex s).1, s.length, l⟩ := by
 obtain ⟨h1, h2, h3⟩ := Lfc.lex_good h
 exact ⟨h2, h1, hl, fun t ht => ⟨by have := (Lfc.valid_le (h3 t ht)).1; omega, fun _ => (Lfc.valid_le (h3 t ht)).2⟩⟩
theorem dirOK_infix {p : Lfc.PE} (ok : POk p) : DirOK p 0 := fun P I k G a w h hk => infix_any a w h hk ok
theorem dirsOK_infix {s : List UInt8} (h : (Lfc.lex s).2.1 = 0) (ha : (Lfc.lex s).1.all (fun t => decide (t.kind ≠ 3) || decide (Lfc.idxW t.text Lfc.dirs = 0)) = true) : DirsOK s := by
 intro k l' hk hl h3 h0
 have := List.all_eq_true.1 ha _ (List.mem_of_getElem? (PE.pk_of (p := ⟨(Lfc.lex s).1, s.length, l'⟩) hk))
 simp only [Bool.or_eq_true, decide_eq_true_eq] at this
 rcases this with e | e
 ·exact absurd h3 e
 ·rw [e]; exact dirOK_infix (pok_lex h hl)
theorem aw_item1 (s : IS) : ItemC (Lfc.awI1, s) := by
 intro Wr w A B c d ws qs h hv hl hq
 have h1 := witem_op4 h 0 [] [] [] [43] 10 [] [] [] [] [] [] 0 0 [] 0 0 [] 0 0 s (by decide) hl hq
 simp only [List.length_nil] at h1
 have e2 : Lfc.awI1.words qs = [[37, 105, 110, 102, 105, 120, 32, 108, 101, 102, 116], Lfc.dec 10, [43]] := rfl
 have e3 : Lfc.awI1.quo qs = qs ++ [[43]] := rfl
 simp only
 rw [e2, e3]
 simp only [itCells, Lfc.awI1, Lfc.Itm.new, Lfc.awO, Lfc.Ord.nil, Lfc.Ord.k, Lfc.Ord.a, Lfc.Ord.ps, List.length_nil]
 exact h1
theorem aw_item2 (s : IS) : ItemC (Lfc.awI2, s) := by
 intro Wr w A B c d ws qs h hv hl hq
 have e2 : Lfc.awI2.words qs = Lfc.awI2.words1 qs := rfl
 have e3 : Lfc.awI2.quo qs = qs := rfl
 simp only at hv ⊢
 rw [e2, e3]
 have C := witem_cd h Lfc.awI2 s (.inl rfl) Lfc.aw_s2 hv hl hq
 refine C.mono ?_
 rintro e w' ⟨h1, h2⟩
 exact ⟨h1, h2.toR⟩
theorem two_of {α : Type} : ∀ {xs : List α}, xs.length = 2 → ∃ a b, xs = [a, b]
 | [a, b], _ => ⟨a, b, rfl⟩
theorem aw_parse (w : World) : Calls Tryz.prog 9 #[S [37, 105, 110, 102, 105, 120, 32, 108, 101, 102, 116, 32, 49, 48, 32, 43, 46, 32, 97, 32, 58, 32, 98, 32, 43, 32, 99, 32, 45, 62, 32, 116, 121, 112, 101, 46]] w fun e w' => (∃ s1 s2 b o c B d, e = .returned (.tuple #[.slice (some ⟨b, o, none⟩) 2 c, .slice B 1 d, .int .i64 0, .int .i64 36]) ∧ ItsV w' (some ⟨b, o, none⟩) [(Lfc.awI1, s1), (Lfc.awI2, s2)] ∧ b < w'.heap.size ∧ 2 ≤ c ∧ OpsAt w' B [Lfc.awO]) ∧ Below w.heap.size w w' := by
 have C := parse_any Lfc.aw1 w (by decide) (dirsOK_infix (by kernel_rfl) (by kernel_rfl))
 rw [Lfc.aw_1] at C
 refine C.mono ?_
 rintro e w' ⟨⟨xs, A, c, B, d, hx, he, hv, hc, ho⟩, hb⟩
 have hx : [Lfc.awI1, Lfc.awI2] = xs.map Prod.fst := hx
 have hl : xs.length = 2 := by
  have := congrArg List.length hx
  rw [List.length_map] at this
  exact this.symm
 obtain ⟨⟨x1, s1⟩, ⟨x2, s2⟩, rfl⟩ : ∃ y1 y2, xs = [y1, y2] := two_of hl
 rw [List.map_cons, List.map_cons, List.map_nil] at hx
 injection hx with h1 h2
 injection h2 with h2 _
 subst h1 h2
 obtain ⟨b, o, rfl, hlt, _⟩ := hv (by simp)
 exact ⟨⟨s1, s2, b, o, c, B, d, he, hv, hlt, hc, ho⟩, hb⟩
theorem aw_parse2 (w : World) : Calls Tryz.prog 9 #[S [97, 32, 98, 46]] w fun e w' => e = .returned (.tuple #[.slice none 0 0, .slice none 0 0, .int .i64 20, .int .i64 2]) ∧ Below w.heap.size w w' := by
 have C := parse_any Lfc.aw2 w (by decide) (dirsOK_infix (by kernel_rfl) (by kernel_rfl))
 rw [Lfc.aw_2] at C
 exact C
theorem aw_expr (B : Option Addr) (d : Nat) (w : World) (h : OpsAt w B [Lfc.awO]) : Calls Tryz.prog 15 #[.slice B 1 d, S [97, 32, 43, 32, 98]] w fun e w' => (∃ k n p A n' c, e = .returned (.tuple #[.agg #[.int .i64 k, S n, .int .i64 p, .slice A n' c], .int .i64 0, .int .i64 5])) ∧ Below w.heap.size w w' := by
 have C := pexpr_any [Lfc.awO] B d Lfc.aw3 w (by decide) h (by decide)
 obtain ⟨t, k, e⟩ := Lfc.aw_3
 rw [e] at C
 refine C.mono ?_
 rintro e w' ⟨⟨v, he, hv⟩, hb⟩
 obtain ⟨kd, nm, ps, ts⟩ := t
 obtain ⟨A, c, rfl, _⟩ := hv.open_
 exact ⟨⟨kd, nm, ps, A, ts.length, c, he⟩, hb⟩
theorem aw_wf (A : Option Addr) (c : Nat) (s1 s2 : IS) (w : World) (h : ItsV w A [(Lfc.awI1, s1), (Lfc.awI2, s2)]) : Calls Tryz.prog 26 #[.slice A 2 c] w fun e w' => e = .returned (.int .i64 0) ∧ Below w.heap.size w w' := by
 have C := wellFormed_of [(Lfc.awI1, s1), (Lfc.awI2, s2)] A c w (by simp) h (by
  intro y hy
  simp only [List.mem_cons, List.not_mem_nil, or_false] at hy
  rcases hy with rfl | rfl
  ·exact Lfc.aw_s1
  ·exact Lfc.aw_s2) (by
  intro y hy W hv
  simp only [List.mem_cons, List.not_mem_nil, or_false] at hy
  rcases hy with rfl | rfl
  ·exact formed_op _ _ W rfl Lfc.aw_s1 hv
  ·exact formed_const _ _ W rfl Lfc.aw_s2 hv) (by
  intro y hy W hv
  simp only [List.mem_cons, List.not_mem_nil, or_false] at hy
  rcases hy with rfl | rfl
  ·exact trees_leaf _ _ W hv Lfc.aw_s1 rfl rfl
  ·exact trees_leaf _ _ W hv Lfc.aw_s2 rfl rfl)
 rw [show ([(Lfc.awI1, s1), (Lfc.awI2, s2)] : List (Lfc.Itm × IS)).map Prod.fst = [Lfc.awI1, Lfc.awI2] from rfl, Lfc.aw_5] at C
 exact C
theorem aw_fmt (A : Option Addr) (c : Nat) (s1 s2 : IS) (w : World) (h : ItsV w A [(Lfc.awI1, s1), (Lfc.awI2, s2)]) : Calls Tryz.prog 10 #[.slice A 2 c] w fun e w' => e = .returned (S (Lfc.formatP [Lfc.awI1, Lfc.awI2])) ∧ Below w.heap.size w w' := by
 refine format_of [(Lfc.awI1, s1), (Lfc.awI2, s2)] A c w h ?_ ?_ ?_
 ·intro y hy q
  simp only [List.mem_cons, List.not_mem_nil, or_false] at hy
  rcases hy with rfl | rfl
  ·refine ⟨?_, by simp [Lfc.Itm.words, Lfc.Itm.words1, Lfc.awI1]⟩
   have e : Lfc.awI1.words q = [[37, 105, 110, 102, 105, 120, 32, 108, 101, 102, 116], Lfc.dec 10, [43]] := rfl
   have e2 : Lfc.dec 10 = [49, 48] := by unfold Lfc.dec; rw [Go.Lib.decDigits_two (by decide) (by decide)]; rfl
   simp only
   rw [e, e2]
   decide
  ·refine ⟨?_, by simp [Lfc.Itm.words, Lfc.Itm.words1, Lfc.awI2]⟩
   have h1 := Lfc.fmt_len q 10 Lfc.awT (by simp [Lfc.awT, Lfc.Raw.short, Lfc.Raw.shorts])
   have h2 : Lfc.awT.size = 7 := rfl
   have e : Lfc.awI2.words q = [[97], [58], Lfc.awT.fmt q] := rfl
   simp only
   rw [e, show Lfc.joinW [[97], [58], Lfc.awT.fmt q] = [97] ++ Lib.joinTail [32] [[58], Lfc.awT.fmt q] from Lib.join_cons _ _ _]
   simp [Lib.joinTail]
   omega
 ·exact aw_wf A c s1 s2 w h
 ·intro y hy _
  simp only [List.mem_cons, List.not_mem_nil, or_false] at hy
  rcases hy with rfl | rfl
  ·exact aw_item1 s1
  ·exact aw_item2 s2
end Go.Proofs.YthajalgkjonaaaaGreatDoor
namespace Go.Proofs.YthajalgkjonaaaaGreatDoor
open Go.RowKit
theorem its_second {w : World} {b o : Nat} {s1 s2 : IS} (h : ItsV w (some ⟨b, o, none⟩) [(Lfc.awI1, s1), (Lfc.awI2, s2)]) : ∀ j u, (itCells Lfc.awI2 s2)[j]? = some u → w.cell? ⟨b, o + (22 + j), none⟩ = some u := by
 obtain ⟨b', o', e, _, hc, _⟩ := h (by simp)
 cases e
 intro j u hj
 have hj22 : j < 22 := (Array.getElem?_eq_some_iff.1 hj).1
 exact hc (22 + j) u (by have := itRow_at [(Lfc.awI1, s1), (Lfc.awI2, s2)] 1 (by simp) j hj22; rw [Nat.one_mul] at this; rw [this]; exact hj)
theorem its_tree {w : World} {b o : Nat} {s1 s2 : IS} (h : ItsV w (some ⟨b, o, none⟩) [(Lfc.awI1, s1), (Lfc.awI2, s2)]) : TreesAt w s2.ty.1 [Lfc.awT] := by
 obtain ⟨b', o', e, _, _, hi⟩ := h (by simp)
 exact (hi (Lfc.awI2, s2) (by simp)).ty.1
set_option maxRecDepth 100000 in
set_option maxHeartbeats 8000000 in
theorem awake4_any (w : World) : Calls Tryz.prog 12 #[] w fun e w' => e = .returned (.bool true) ∧ Below w.heap.size w w' := by
 have C1 := Lib.hid (aw_parse w)
 go_enter Tryz.func12, Tryz.ntmps12
 go_upto_region 3 with (go_at_call 9; refine C1.out.mono ?_; rintro e w1 ⟨⟨s1, s2, b, o, c, B, d, rfl, hv, hb, hc, ho⟩, b1⟩)
 have HV := Lib.hid hv
 have HO := Lib.hid ho
 have K1 := Lib.hid (fun W (hW : Below w1.heap.size w1 W) j u hj => (hW.cell (p := ⟨b, _, none⟩) hb).trans (its_second hv j u hj))
 have k1 := K1.out w1 (Below.refl _ _)
 have c0 : w1.cell? ⟨b, o + 22, none⟩ = some (.int .i64 1) := k1 0 _ rfl
 have c1 : w1.cell? ⟨b, o + 23, none⟩ = some (.int .i64 18) := k1 1 _ rfl
 have c3 : w1.cell? ⟨b, o + 25, none⟩ = some (.slice s2.ty.1 1 s2.ty.2) := k1 3 _ rfl
 have c1' : w1.cell? ⟨b, o + 22 + 1, none⟩ = some (.int .i64 18) := k1 1 _ rfl
 have c3' : w1.cell? ⟨b, o + 22 + 3, none⟩ = some (.slice s2.ty.1 1 s2.ty.2) := k1 3 _ rfl
 clear hv ho k1
 have C2 := Lib.hid (aw_parse2 w1)
 go_upto_region 5 with fail
 clear c0 c1 c3 c1' c3'
 go_upto_region 6 with (go_at_call 9; refine C2.out.mono ?_; rintro e w2 ⟨rfl, b2⟩)
 have C3 := Lib.hid (aw_expr B d w2 (HO.out.below b2))
 have B12 := Lib.hid (b1.trans (b2.mono b1.size))
 have HV2 := Lib.hid (HV.out.below b2)
 have B2 := Lib.hid b2
 clear b1 b2 C2 C1
 go_upto_region 7 with (go_at_call 15; refine C3.out.mono ?_; rintro e w3 ⟨⟨tk, tn, tp, D, n', g, rfl⟩, b3⟩;obtain ⟨w4, hw4⟩ : ∃ w4, w3.alloc (.cells #[.int .i64 tk, S tn, .int .i64 tp, .slice D n' g] 46) = w4 := ⟨_, rfl⟩)
 have b4 : Below w3.heap.size w3 w4 := by rw [← hw4]; exact (Below.refl _ _).alloc (Nat.le_refl _) _
 have b24 := b3.trans (b4.mono b3.size)
 have B14 := Lib.hid (B12.out.trans (b24.mono B12.out.size))
 have HV4 := Lib.hid (HV2.out.below b24)
 have k4 := K1.out w4 (B2.out.trans (b24.mono B2.out.size))
 have c0 : w4.cell? ⟨b, o + 22, none⟩ = some (.int .i64 1) := k4 0 _ rfl
 have c1 : w4.cell? ⟨b, o + 23, none⟩ = some (.int .i64 18) := k4 1 _ rfl
 have c3 : w4.cell? ⟨b, o + 25, none⟩ = some (.slice s2.ty.1 1 s2.ty.2) := k4 3 _ rfl
 have c1' : w4.cell? ⟨b, o + 22 + 1, none⟩ = some (.int .i64 18) := k4 1 _ rfl
 have c3' : w4.cell? ⟨b, o + 22 + 3, none⟩ = some (.slice s2.ty.1 1 s2.ty.2) := k4 3 _ rfl
 obtain ⟨tb, tq, k5, n5, p5, us, E, h, hA, hT, d0, d1, d2, d3, hTV⟩ := trees_head (its_tree HV4.out)
 rw [hA] at c3 c3'
 have CF := Lib.hid (rFormat_any Lfc.awT _ [] none 0 w4 (by decide) hTV (by decide) (fun h => absurd h (by decide)))
 rw [Lfc.aw_4] at CF
 have CW := Lib.hid (fun W (hb : Below w4.heap.size w4 W) => aw_wf (some ⟨b, o, none⟩) c s1 s2 W (HV4.out.below hb))
 have CM := Lib.hid (fun W (hb : Below w4.heap.size w4 W) => aw_fmt (some ⟨b, o, none⟩) c s1 s2 W (HV4.out.below hb))
 have hpos := Lfc.aw_6
 generalize Lfc.formatP [Lfc.awI1, Lfc.awI2] = J at *
 have hp1 : decide ((J.length : Int) > 0) = true := decide_eq_true (by omega)
 have hp2 : decide (0 < J.length) = true := decide_eq_true hpos
 clear hTV k4 hA hT b3 b4 b24 C3
 clear hw4
 go_wp2_with (first
  | (go_at_call 16; refine CF.out.mono ?_; rintro e w5 ⟨rfl, b5⟩)
  | (go_at_call 26; refine (CW.out _ b5).mono ?_; rintro e w6 ⟨rfl, b6⟩; have b46 := b5.trans (b6.mono b5.size))
  | (go_at_call 10; refine (CM.out _ b46).mono ?_; rintro e w7 ⟨rfl, b7⟩; have b47 := b46.trans (b7.mono b46.size)))
 go_ret
 exact ⟨rfl, B14.out.trans (b47.mono B14.out.size)⟩
end Go.Proofs.YthajalgkjonaaaaGreatDoor
namespace Lfc
theorem run_all (p : UInt8 → Bool) : ∀ l : List UInt8, runLen p l = l.length → ∀ c ∈ l, p c = true
 | [], _, c, h => by cases h
 | a :: r, h, c, hc => by
  simp only [runLen, List.length_cons] at h
  split at h
  ·rename_i ha
   rcases List.mem_cons.1 hc with rfl | hc
   ·exact ha
   ·exact run_all p r (by omega) c hc
  ·omega
theorem name_all {n : List UInt8} (h : isName n = true) : ∀ c ∈ n, nameB c = true := by
 unfold isName at h
 simp only [Bool.and_eq_true, decide_eq_true_eq] at h
 exact run_all _ n h.1.1.2
theorem name_ne {n : List UInt8} (h : isName n = true) : n ≠ [] := by
 unfold isName at h
 simp only [Bool.and_eq_true, decide_eq_true_eq] at h
 exact h.1.1.1.1
theorem name_res {n : List UInt8} (h : isName n = true) : reservedB n = false := by
 unfold isName at h
 simp only [Bool.and_eq_true, decide_eq_true_eq, Bool.not_eq_true'] at h
 exact h.1.2
theorem name_at {n : List UInt8} (h : isName n = true) : ¬ (n.headD 0).toNat = 64 := by
 unfold isName at h
 simp only [Bool.and_eq_true, decide_eq_true_eq] at h
 exact h.2
def Stop (s : List UInt8) : Prop := ∀ c r, s = c :: r → nameB c = false
theorem stop_cons {c : UInt8} (r : List UInt8) (h : nameB c = false) : Stop (c :: r) := fun c' r' e => by cases e; exact h
def wordOf (k : Int) (n : List UInt8) : List UInt8 := if k = 1 then n else if k = 2 then 64 :: n else if k = 3 then [95] else [116, 121, 112, 101]
def midOf (k : Int) : List UInt8 := if k = 5 then [32] else if k = 6 then [32, 45, 62, 32] else [32, 58, 32]
def brOf (k : Int) : UInt8 := if k = 7 then 123 else 91
def crOf (k : Int) : UInt8 := if k = 7 then 125 else 93
theorem shapes {k p : Int} {n : List UInt8} {ts : List Raw} (h : (Raw.node k n p ts).form = true) :
  ((k = 1 ∨ k = 2 ∨ k = 3 ∨ k = 4) ∧ ts = [] ∧ ((k = 1 ∨ k = 2) → isName n = true) ∧ ((k = 3 ∨ k = 4) → n = []) ∧ Raw.text [] (.node k n p ts) = wordOf k n) ∨
  ((k = 5 ∨ k = 6 ∨ k = 9) ∧ n = [] ∧ ∃ x y, ts = [x, y] ∧ x.form = true ∧ y.form = true ∧ Raw.text [] (.node k n p ts) = 40 :: (Raw.text [] x ++ (midOf k ++ (Raw.text [] y ++ [41])))) ∨
  ((k = 7 ∨ k = 8) ∧ (isName n = true ∨ n = [95]) ∧ ∃ x, ts = [x] ∧ x.form = true ∧ Raw.text [] (.node k n p ts) = 40 :: brOf k :: (n ++ (crOf k :: 32 :: (Raw.text [] x ++ [41])))) ∨
  ((k = 7 ∨ k = 8) ∧ (isName n = true ∨ n = [95]) ∧ ∃ x y, ts = [x, y] ∧ x.form = true ∧ y.form = true ∧ Raw.text [] (.node k n p ts) = 40 :: brOf k :: (n ++ (58 :: (Raw.text [] x ++ (crOf k :: 32 :: (Raw.text [] y ++ [41])))))) := by
 rw [Raw.form, Bool.and_eq_true] at h
 obtain ⟨hf, hs⟩ := h
 unfold formed at hf
 split at hf
 ·rename_i hk
  simp only [Bool.and_eq_true, decide_eq_true_eq] at hf
  obtain rfl := List.length_eq_zero_iff.1 hf.2
  refine .inl ⟨by omega, rfl, fun _ => hf.1, fun h => by omega, ?_⟩
  rcases hk with rfl | rfl <;> simp [Raw.text, putText, wordOf]
 split at hf
 ·rename_i hk
  simp only [Bool.and_eq_true, decide_eq_true_eq] at hf
  obtain ⟨rfl, h2⟩ := hf
  obtain rfl := List.length_eq_zero_iff.1 h2
  refine .inl ⟨by omega, rfl, fun h => by omega, fun _ => rfl, ?_⟩
  rcases hk with rfl | rfl <;> simp [Raw.text, putText, wordOf]
 split at hf
 ·rename_i hk
  simp only [Bool.and_eq_true, decide_eq_true_eq] at hf
  obtain ⟨rfl, h2⟩ := hf
  match ts, h2 with
  | [x, y], _ =>
   simp only [Raw.forms, Bool.and_true, Bool.and_eq_true] at hs
   refine .inr (.inl ⟨hk, rfl, x, y, rfl, hs.1, hs.2, ?_⟩)
   rcases hk with rfl | rfl | rfl <;> simp [Raw.text, Raw.texts, putText, twoText, midOf]
 split at hf
 ·rename_i hk
  simp only [Bool.and_eq_true, Bool.or_eq_true, decide_eq_true_eq] at hf
  obtain ⟨h1, h2⟩ := hf
  match ts, h2 with
  | [x], _ =>
   simp only [Raw.forms, Bool.and_true] at hs
   refine .inr (.inr (.inl ⟨hk, h1, x, rfl, hs, ?_⟩))
   rcases hk with rfl | rfl <;> simp [Raw.text, Raw.texts, putText, bindText, brOf, crOf]
  | [x, y], _ =>
   simp only [Raw.forms, Bool.and_true, Bool.and_eq_true] at hs
   refine .inr (.inr (.inr ⟨hk, h1, x, y, rfl, hs.1, hs.2, ?_⟩))
   rcases hk with rfl | rfl <;> simp [Raw.text, Raw.texts, putText, bindText, brOf, crOf]
  | [], h => simp at h
  | _ :: _ :: _ :: _, h => simp at h
 ·cases hf
theorem bind_names {n : List UInt8} (h : isName n = true ∨ n = [95]) : ∀ c ∈ n, nameB c = true := by
 rcases h with h | rfl
 ·exact name_all h
 ·decide
end Lfc
namespace Lfc
def kt (t : Tok) : Int × List UInt8 := (t.kind, t.text)
def Eats (l : List UInt8) (K : List (Int × List UInt8)) (ok : List UInt8 → Prop) : Prop :=
 ∀ n z, ok z → (sc (n + l.length) z).2.1 = 0 → ∃ ts, sc n (l ++ z) = (ts ++ (sc (n + l.length) z).1, (sc (n + l.length) z).2) ∧ ts.map kt = K
theorem Eats.app {l l' : List UInt8} {K K' : List (Int × List UInt8)} {ok ok' : List UInt8 → Prop} (h : Eats l K ok) (h' : Eats l' K' ok') (hk : ∀ z, ok' z → ok (l' ++ z)) : Eats (l ++ l') (K ++ K') ok' := by
 intro n z hz h0
 rw [List.length_append, ← Nat.add_assoc] at h0
 obtain ⟨ts', e', k'⟩ := h' (n + l.length) z hz h0
 obtain ⟨ts, e, k⟩ := h n (l' ++ z) (hk z hz) (by rw [e']; exact h0)
 refine ⟨ts ++ ts', ?_, by rw [List.map_append, k, k']⟩
 rw [List.append_assoc, e, e', List.length_append, ← Nat.add_assoc, List.append_assoc]
theorem Eats.mono {l : List UInt8} {K : List (Int × List UInt8)} {ok ok' : List UInt8 → Prop} (h : Eats l K ok) (hk : ∀ z, ok' z → ok z) : Eats l K ok' := fun n z hz => h n z (hk z hz)
def Any (z : List UInt8) : Prop := True
theorem eats_blank (c : UInt8) (h : blankB c = true) : Eats [c] [] Any := by
 intro n z _ h0
 exact ⟨[], by rw [List.cons_append, sc_blank n c _ h]; rfl, rfl⟩
theorem sc_step (n m : Nat) (k : Int) (t : List UInt8) (c : UInt8) (r z : List UInt8) (e : nx (c :: r) = ⟨k, t, m, 0⟩) (hk : k ≠ 0) (hd : (c :: r).drop m = z) (h0 : (sc (n + m) z).2.1 = 0) : sc n (c :: r) = (⟨k, t, n⟩ :: (sc (n + m) z).1, (sc (n + m) z).2) := by
 rw [sc_ok _ _ _ (by rw [e]), e]
 simp only
 rw [hd]
 unfold put
 rw [if_neg hk, if_pos h0]
theorem eats_special (c : UInt8) (hs : specialB c = true) : Eats [c] [(2, [c])] Any := by
 intro n z _ h0
 have h1 := special_not' c hs
 refine ⟨[⟨2, [c], n⟩], ?_, rfl⟩
 have e : nx (c :: z) = ⟨2, [c], 1, 0⟩ := by
  simp only [nx]
  rw [h1.1, if_neg (by simp), if_neg h1.2.1, h1.2.2, if_neg (by simp), hs, if_pos rfl]
 exact sc_step n 1 2 [c] c z z e (by decide) rfl h0
theorem eats_word (w : List UInt8) (hne : w ≠ []) (h64 : w.length ≤ 64) (hall : ∀ b ∈ w, nameB b = true) : Eats w [(if reservedB w then 2 else 1, w)] Stop := by
 intro n z hz h0
 have hrun := runLen_app nameB w z hall hz
 cases w with
 | nil => exact absurd rfl hne
 | cons c r =>
  have hc := hall c List.mem_cons_self
  have h1 := name_not c hc
  have hrun' : runLen nameB (c :: (r ++ z)) = r.length + 1 := by simpa using hrun
  have htk : (c :: (r ++ z)).take (r.length + 1) = c :: r := by rw [List.take_succ_cons, List.take_left]
  refine ⟨[⟨if reservedB (c :: r) then 2 else 1, c :: r, n⟩], ?_, rfl⟩
  have e : nx (c :: (r ++ z)) = ⟨if reservedB (c :: r) then 2 else 1, c :: r, (c :: r).length, 0⟩ := by
   simp only [nx]
   rw [h1.1, if_neg (by simp), if_neg h1.2, hc, if_pos rfl, hrun', htk]
   unfold nm
   rw [if_neg (by omega)]
  rw [List.cons_append]
  exact sc_step n _ _ _ c (r ++ z) z e (by split <;> decide) (by simp) h0
def putKT (q : List (List UInt8)) (k : Int) (n : List UInt8) (xs : List (List (Int × List UInt8))) : List (Int × List UInt8) :=
 if k = 1 then (if n ∈ q then [(2, [40]), (1, n), (2, [41])] else [(1, n)])
 else if k = 2 then [(1, 64 :: n)]
 else if k = 3 then [(2, [95])]
 else if k = 4 then [(2, [116, 121, 112, 101])]
 else if k = 5 then [(2, [40])] ++ xs.getD 0 [] ++ xs.getD 1 [] ++ [(2, [41])]
 else if k = 6 then [(2, [40])] ++ xs.getD 0 [] ++ [(2, [45, 62])] ++ xs.getD 1 [] ++ [(2, [41])]
 else if k = 9 then [(2, [40])] ++ xs.getD 0 [] ++ [(2, [58])] ++ xs.getD 1 [] ++ [(2, [41])]
 else
  let o : List UInt8 := if k = 7 then [123] else [91]
  let e : List UInt8 := if k = 7 then [125] else [93]
  if xs.length = 1 then [(2, [40]), (2, o), (if reservedB n then 2 else 1, n), (2, e)] ++ xs.getD 0 [] ++ [(2, [41])]
  else [(2, [40]), (2, o), (if reservedB n then 2 else 1, n), (2, [58])] ++ xs.getD 0 [] ++ [(2, e)] ++ xs.getD 1 [] ++ [(2, [41])]
mutual
def Raw.kts (q : List (List UInt8)) : Raw → List (Int × List UInt8)
 | .node k n _ ts => putKT q k n (Raw.ktss q ts)
def Raw.ktss (q : List (List UInt8)) : List Raw → List (List (Int × List UInt8))
 | [] => []
 | a :: r => Raw.kts q a :: Raw.ktss q r
end
theorem eats_par {l : List UInt8} {K : List (Int × List UInt8)} {ok : List UInt8 → Prop} (h : Eats l K ok) (hz : ∀ z, ok (41 :: z)) : Eats ([40] ++ l ++ [41]) ([(2, [40])] ++ K ++ [(2, [41])]) Stop :=
 (((eats_special 40 (by decide)).app h (fun _ _ => trivial)).app (eats_special 41 (by decide)) (fun z _ => hz z)).mono (fun _ _ => trivial)
theorem eats_bindName {n : List UInt8} (hn : isName n = true ∨ n = [95]) (h6 : n.length ≤ 60) : Eats n [(if reservedB n then 2 else 1, n)] Stop := by
 refine eats_word n ?_ (by omega) (bind_names hn)
 rcases hn with h | rfl
 ·exact name_ne h
 ·simp
theorem eats_text (q : List (List UInt8)) (m : Nat) : ∀ t : Raw, t.size ≤ m → t.form = true → t.short 60 → Eats (t.text q) (t.kts q) Stop := by
 induction m with
 | zero => intro t h; have := t.size_pos; omega
 | succ m ih =>
  intro t hm hf hsh
  obtain ⟨k, n, p, ts⟩ := t
  rw [Raw.short] at hsh
  obtain ⟨hl, hsh⟩ := hsh
  have s41 : ∀ z, Stop (41 :: z) := fun z => stop_cons _ (by decide)
  have s32 : ∀ z, Stop (32 :: z) := fun z => stop_cons _ (by decide)
  rcases shapes hf with ⟨hk, rfl, h1, h2, _⟩ | ⟨hk, rfl, x, y, rfl, fx, fy, _⟩ | ⟨hk, hn, x, rfl, fx, _⟩ | ⟨hk, hn, x, y, rfl, fx, fy, _⟩
  ·rcases hk with rfl | rfl | rfl | rfl
   ·have hn := h1 (.inl rfl)
    have hw : Eats n [(1, n)] Stop := by
     have := eats_word n (name_ne hn) (by omega) (name_all hn)
     rwa [name_res hn] at this
    simp only [Raw.text, Raw.kts, putText, putKT, if_pos]
    by_cases hq : n ∈ q
    ·rw [if_pos hq, if_pos hq]; exact eats_par hw s41
    ·rw [if_neg hq, if_neg hq]; exact hw
   ·have hn := h1 (.inr rfl)
    have := eats_word (64 :: n) (by simp) (by simp; omega) (fun b hb => by
     rcases List.mem_cons.1 hb with rfl | hb
     ·decide
     ·exact name_all hn b hb)
    rw [show reservedB (64 :: n) = false by simp [reservedB]] at this
    exact this
   ·rw [h2 (.inl rfl)]
    exact eats_word [95] (by simp) (by decide) (by decide)
   ·rw [h2 (.inr rfl)]
    exact eats_word [116, 121, 112, 101] (by simp) (by decide) (by decide)
  ·simp only [Raw.size, Raw.sizes] at hm
   simp only [Raw.shorts] at hsh
   have hx := ih x (by omega) fx hsh.1
   have hy := ih y (by omega) fy hsh.2.1
   have b32 := eats_blank 32 (by decide)
   rcases hk with rfl | rfl | rfl
   ·have := eats_par (((hx.app b32 (fun z _ => s32 z))).app hy (fun _ _ => trivial)) s41
    simpa [Raw.text, Raw.texts, Raw.kts, Raw.ktss, putText, putKT, twoText] using this
   ·have hw := eats_word [45, 62] (by simp) (by decide) (by decide)
    have := eats_par ((((hx.app b32 (fun z _ => s32 z)).app hw (fun _ _ => trivial)).app b32 (fun z _ => s32 z)).app hy (fun _ _ => trivial)) s41
    simpa [Raw.text, Raw.texts, Raw.kts, Raw.ktss, putText, putKT, twoText, reservedB] using this
   ·have hw := eats_special 58 (by decide)
    have := eats_par ((((hx.app b32 (fun z _ => s32 z)).app hw (fun _ _ => trivial)).app b32 (fun z _ => trivial)).app hy (fun _ _ => trivial)) s41
    simpa [Raw.text, Raw.texts, Raw.kts, Raw.ktss, putText, putKT, twoText] using this
  ·simp only [Raw.size, Raw.sizes] at hm
   simp only [Raw.shorts] at hsh
   have hx := ih x (by omega) fx hsh.1
   have hb := eats_bindName hn hl
   have b32 := eats_blank 32 (by decide)
   rcases hk with rfl | rfl
   ·have := eats_par (((((eats_special 123 (by decide)).app hb (fun _ _ => trivial)).app (eats_special 125 (by decide)) (fun z _ => stop_cons _ (by decide))).app b32 (fun _ _ => trivial)).app hx (fun _ _ => trivial)) s41
    simpa [Raw.text, Raw.texts, Raw.kts, Raw.ktss, putText, putKT, bindText] using this
   ·have := eats_par (((((eats_special 91 (by decide)).app hb (fun _ _ => trivial)).app (eats_special 93 (by decide)) (fun z _ => stop_cons _ (by decide))).app b32 (fun _ _ => trivial)).app hx (fun _ _ => trivial)) s41
    simpa [Raw.text, Raw.texts, Raw.kts, Raw.ktss, putText, putKT, bindText] using this
  ·simp only [Raw.size, Raw.sizes] at hm
   simp only [Raw.shorts] at hsh
   have hx := ih x (by omega) fx hsh.1
   have hy := ih y (by omega) fy hsh.2.1
   have hb := eats_bindName hn hl
   have b32 := eats_blank 32 (by decide)
   have b58 := eats_special 58 (by decide)
   rcases hk with rfl | rfl
   ·have := eats_par (((((((eats_special 123 (by decide)).app hb (fun _ _ => trivial)).app b58 (fun z _ => stop_cons _ (by decide))).app hx (fun _ _ => trivial)).app (eats_special 125 (by decide)) (fun z _ => stop_cons _ (by decide))).app b32 (fun _ _ => trivial)).app hy (fun _ _ => trivial)) s41
    simpa [Raw.text, Raw.texts, Raw.kts, Raw.ktss, putText, putKT, bindText] using this
   ·have := eats_par (((((((eats_special 91 (by decide)).app hb (fun _ _ => trivial)).app b58 (fun z _ => stop_cons _ (by decide))).app hx (fun _ _ => trivial)).app (eats_special 93 (by decide)) (fun z _ => stop_cons _ (by decide))).app b32 (fun _ _ => trivial)).app hy (fun _ _ => trivial)) s41
    simpa [Raw.text, Raw.texts, Raw.kts, Raw.ktss, putText, putKT, bindText] using this
theorem brk_len : ∀ (l : List UInt8) (p : Bool), brk p l ≤ l.length
 | [], _ => by simp [brk]
 | c :: r, p => by
  have := brk_len r (letterB c)
  simp only [brk, List.length_cons]
  split <;> omega
theorem lex_text (q : List (List UInt8)) (t : Raw) (hf : t.form = true) (hs : t.short 60) (hl : (t.text q).length ≤ 20000) : ∃ ts, lex (t.text q) = (ts, 0, (t.text q).length) ∧ ts.map kt = t.kts q := by
 obtain ⟨ts, e, k⟩ := eats_text q t.size t (Nat.le_refl _) hf hs 0 [] (fun _ _ h => by cases h) rfl
 rw [List.append_nil] at e
 refine ⟨ts, ?_, k⟩
 rw [lex_sc' _ (by omega) (Nat.le_trans (brk_len _ _) hl), e, sc_nil]
 simp
end Lfc
namespace Lfc
mutual
theorem same_size : ∀ a b : Raw, Raw.same false a b = true → a.size = b.size ∧ a.depth = b.depth ∧ a.form = b.form
 | .node k n p xs, .node k' n' p' ys, h => by
  simp only [Raw.same, Bool.and_eq_true, decide_eq_true_eq] at h
  obtain ⟨⟨⟨rfl, rfl⟩, _⟩, h⟩ := h
  obtain ⟨h1, h2, h3, h4⟩ := sames_size xs ys h
  simp only [Raw.size, Raw.depth, Raw.form]
  rw [h1, h2, h3, h4]
  exact ⟨rfl, rfl, rfl⟩
theorem sames_size : ∀ a b : List Raw, Raw.sames false a b = true → Raw.sizes a = Raw.sizes b ∧ Raw.depths a = Raw.depths b ∧ Raw.forms a = Raw.forms b ∧ a.length = b.length
 | [], [], _ => ⟨rfl, rfl, rfl, rfl⟩
 | a :: r, b :: s, h => by
  simp only [Raw.sames, Bool.and_eq_true] at h
  obtain ⟨h1, h2, h3⟩ := same_size a b h.1
  obtain ⟨g1, g2, g3, g4⟩ := sames_size r s h.2
  simp only [Raw.sizes, Raw.depths, Raw.forms, List.length_cons]
  rw [h1, h2, h3, g1, g2, g3, g4]
  exact ⟨rfl, rfl, rfl, rfl⟩
 | [], _ :: _, h => by simp [Raw.sames] at h
 | _ :: _, [], h => by simp [Raw.sames] at h
end
theorem same_wf {a b : Raw} (h : Raw.same false a b = true) : a.wf = b.wf := by
 obtain ⟨h1, h2, h3⟩ := same_size a b h
 unfold Raw.wf
 rw [h1, h2, h3]
def At (p : PE) (k : Nat) (K : List (Int × List UInt8)) : Prop := ∃ R, (p.toks.drop k).map kt = K ++ R
theorem At.app {p : PE} {k : Nat} {K K' : List (Int × List UInt8)} (h : At p k (K ++ K')) : At p k K ∧ At p (k + K.length) K' := by
 obtain ⟨R, h⟩ := h
 refine ⟨⟨K' ++ R, by rw [h, List.append_assoc]⟩, R, ?_⟩
 have := congrArg (List.drop K.length) h
 rw [← List.map_drop, List.drop_drop, List.append_assoc, List.drop_left] at this
 exact this
theorem At.head {p : PE} {k : Nat} {a : Int} {s : List UInt8} {K : List (Int × List UInt8)} (h : At p k ((a, s) :: K)) : k < p.toks.length ∧ (p.pk k).kind = a ∧ (p.pk k).text = s ∧ At p (k + 1) K := by
 have h2 : At p (k + 1) K := (At.app (K := [(a, s)]) h).2
 obtain ⟨R, h⟩ := h
 have hk : k < p.toks.length := by
  rcases Nat.lt_or_ge k p.toks.length with h1 | h1
  ·exact h1
  ·rw [List.drop_eq_nil_of_le h1] at h; cases h
 rw [List.drop_eq_getElem_cons hk, List.map_cons, List.cons_append] at h
 injection h with h3 _
 unfold kt at h3
 injection h3 with h4 h5
 have e : p.pk k = p.toks[k] := by unfold PE.pk; rw [List.getD_eq_getElem?_getD, List.getElem?_eq_getElem hk]; rfl
 rw [e]
 exact ⟨hk, h4, h5, h2⟩
def chain (g : Nat → PR (Option Opd)) : Nat → List Opd → Nat → Prop
 | k, [], k' => k = k'
 | k, x :: r, k' => ∃ k1, g k = .ok (some x) k1 ∧ chain g k1 r k'
theorem opdsG_chain {g : Nat → PR (Option Opd)} {k' : Nat} (hs : g k' = .ok none k') : ∀ (xs : List Opd) (m k : Nat) (acc : List Opd), chain g k xs k' → xs.length < m → opdsG g m k acc = .ok (acc ++ xs) k'
 | [], m + 1, k, acc, h, _ => by
  cases h
  rw [opdsG, hs]
  simp
 | x :: r, m + 1, k, acc, ⟨k1, h, h'⟩, hm => by
  rw [opdsG, h]
  simp only
  rw [opdsG_chain hs r m k1 _ h' (by simpa using hm), List.append_assoc]
  rfl
theorem exprG_chain {p : PE} {g : Nat → PR (Option Opd)} {k k' : Nat} {xs : List Opd} {t : Raw} (hs : g k' = .ok none k') (h : chain g k xs k') (hm : xs.length ≤ p.toks.length) (h0 : xs.length ≠ 0) (hr : resolved p.ops xs = (t, 0)) : p.exprG g k = .ok t k' := by
 unfold PE.exprG
 rw [opdsG_chain hs xs _ k [] h (by omega)]
 simp only [PR.then, List.nil_append]
 rw [if_neg h0, hr, if_neg (by simp)]
def NoOp (ops : List Op) (x : Opd) : Prop := opOf ops x = none
theorem noOp_arrow {ops : List Op} {x : Opd} (h : NoOp ops x) : x.arrow = false := by
 unfold NoOp opOf at h
 unfold Opd.arrow
 split at h
 ·rename_i h1
  simp only [Bool.or_eq_true, decide_eq_true_eq] at h1
  rcases h1 with h1 | h1
  ·simp [h1]
  ·simp [h1]
 ·unfold look at h
  split at h
  ·cases h
  ·split at h
   ·cases h
   ·simp [*]
theorem good_pre {ops : List Op} (ho : ∀ o ∈ ops, o.bad = 0) {xs : List Opd} (hx : ∀ x ∈ xs, x.arrow = true ∨ x.tree.wf = 0) : resolved ops xs = if xs.length = 1 then (if (xs.getD 0 opdZ).arrow then (rawZ, 21) else ((xs.getD 0 opdZ).tree, 0))
 else match resP ops xs.length xs with
  | .error e => (rawZ, e)
  | .ok t => if t.wf = 0 then (t, 0) else (rawZ, 2) := by
 have h1 : ops.any (fun o => decide (o.bad ≠ 0)) = false := List.any_eq_false.2 fun o h => by simp [ho o h]
 have h2 : xs.any (fun x => !x.arrow && decide (x.tree.wf = 1)) = false := List.any_eq_false.2 fun x h => by rcases hx x h with h | h <;> simp [h]
 have h3 : xs.any (fun x => !x.arrow && decide (x.tree.wf = 2)) = false := List.any_eq_false.2 fun x h => by rcases hx x h with h | h <;> simp [h]
 unfold resolved
 rw [h1, h2, h3]
 simp only [Bool.false_eq_true, if_false]
 rfl
theorem res_one {ops : List Op} (ho : ∀ o ∈ ops, o.bad = 0) {x : Opd} (hx : NoOp ops x ∨ x.arrow = false) (hw : x.tree.wf = 0) : resolved ops [x] = (x.tree, 0) := by
 have ha : x.arrow = false := hx.elim noOp_arrow id
 rw [good_pre ho (fun y hy => by simp at hy; subst hy; exact .inr hw)]
 simp [ha]
theorem low_no {ops : List Op} {x : Opd} (hx : NoOp ops x) (st : LowS) (i : Nat) (r : List Opd) : lowN ops st i (x :: r) = lowN ops st (i + 1) r := by
 rw [lowN, hx]; rfl
theorem resP_one {ops : List Op} {x : Opd} (hx : NoOp ops x) (m : Nat) : resP ops (m + 1) [x] = .ok x.tree := by
 rw [resP, if_neg (by simp)]
 unfold resBody low
 rw [low_no hx]
 simp [lowN, lowZ, appAll]
theorem res_two {ops : List Op} (ho : ∀ o ∈ ops, o.bad = 0) {x y : Opd} (hx : NoOp ops x) (hy : NoOp ops y) (hwx : x.tree.wf = 0) (hwy : y.tree.wf = 0) (hw : (appT x.tree y.tree).wf = 0) : resolved ops [x, y] = (appT x.tree y.tree, 0) := by
 rw [good_pre ho (fun z hz => by simp at hz; rcases hz with rfl | rfl; exact .inr hwx; exact .inr hwy)]
 have e : resP ops 2 [x, y] = .ok (appT x.tree y.tree) := by
  rw [resP, if_neg (by simp)]
  unfold resBody low
  rw [low_no hx, low_no hy]
  simp [lowN, lowZ, appAll]
 show (if ([x, y] : List Opd).length = 1 then _ else match resP ops 2 [x, y] with | .error e => (rawZ, e) | .ok t => if t.wf = 0 then (t, 0) else (rawZ, 2)) = _
 rw [if_neg (by simp), e]
 simp only
 rw [if_pos hw]
theorem res_three {ops : List Op} (ho : ∀ o ∈ ops, o.bad = 0) {x y : Opd} {pz : Int} (hx : NoOp ops x) (hy : NoOp ops y) (hwx : x.tree.wf = 0) (hwy : y.tree.wf = 0) (hw : (Raw.node 6 [] pz [x.tree, y.tree]).wf = 0) : resolved ops [x, ⟨.node 1 arrR pz [], false⟩, y] = (.node 6 [] pz [x.tree, y.tree], 0) := by
 rw [good_pre ho (fun z hz => by simp at hz; rcases hz with rfl | rfl | rfl; exact .inr hwx; exact .inl rfl; exact .inr hwy)]
 have hl : low ops [x, ⟨.node 1 arrR pz [], false⟩, y] = ⟨[1], ⟨[], 5, -1⟩, true⟩ := by
  unfold low
  rw [low_no hx, lowN]
  have : opOf ops ⟨.node 1 arrR pz [], false⟩ = some ⟨[], 5, -1⟩ := rfl
  rw [this, low_no hy]
  rfl
 have e : resP ops 3 [x, ⟨.node 1 arrR pz [], false⟩, y] = .ok (.node 6 [] pz [x.tree, y.tree]) := by
  rw [resP, if_neg (by simp)]
  unfold resBody
  rw [hl]
  simp only [List.length_cons, List.length_nil]
  rw [if_neg (by simp), if_neg (by simp), if_neg (by decide), if_neg (by decide), if_neg (by simp)]
  unfold binT
  have hs : segs [x, ⟨.node 1 arrR pz [], false⟩, y] 0 [1, 3] = [[x], [y]] := rfl
  show (match allOk (resP ops 2) (segs [x, ⟨.node 1 arrR pz [], false⟩, y] 0 [1, 3]) with | .error e => _ | .ok parts => _) = _
  rw [hs]
  unfold allOk
  rw [resP_one hx]
  unfold allOk
  rw [resP_one hy]
  rfl
 show (if ([x, ⟨.node 1 arrR pz [], false⟩, y] : List Opd).length = 1 then _ else match resP ops 3 [x, ⟨.node 1 arrR pz [], false⟩, y] with | .error e => (rawZ, e) | .ok t => if t.wf = 0 then (t, 0) else (rawZ, 2)) = _
 rw [if_neg (by simp), e]
 simp only
 rw [if_pos hw]
end Lfc
