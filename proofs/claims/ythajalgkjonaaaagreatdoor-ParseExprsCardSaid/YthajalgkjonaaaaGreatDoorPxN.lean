/- Parts of the proof that no input makes the law false: PaOpd2, PaRec, TokLaw, TokLaw2, PaTok, PaErr, PaIt. -/
import Derived.Test.YthajalgkjonaaaaGreatDoorPxA
import Derived.Test.YthajalgkjonaaaaGreatDoorPxB
import Derived.Test.YthajalgkjonaaaaGreatDoorPxM
set_option linter.unusedVariables false
set_option linter.unusedSimpArgs false
namespace Go.Proofs.YthajalgkjonaaaaGreatDoor
open Go.RowKit
structure OpS (w : World) (P : Nat) (G : Hd) (p : Lfc.PE) (k : Nat) (t : Lfc.Tok) (T : Nat) (W : World) : Prop where
 pw : PW W P G p k
 oth : Oth P w W
 box : W.heap[w.heap.size]? = some (.cells #[.pointer (some ⟨P, 0, none⟩)] 93 (0, 0))
 res : W.heap[w.heap.size + 1]? = some (.cells #[.int .i64 0, S [], .int .i64 0, .slice none 0 0, .bool false] 129 (0, 0))
 tok : W.heap[T]? = some (.cells #[.int .i64 t.kind, S t.text, .int .i64 (t.pos : Int)] 65 (0, 0))
 lt : w.heap.size + 1 < T
theorem OpS.fin {w W W' : World} {P k k' : Nat} {G : Hd} {p : Lfc.PE} {t : Lfc.Tok} {T : Nat} (h : OpS w P G p k t T W) (h0 : PW w P G p k) (h' : PW W' P G p k') (o : Oth P W W') (v0 v1 v2 v3 v4 : Value) :
  ∃ s1 s2 s3 s4 s5, W'.setCell ⟨w.heap.size + 1, 0, none⟩ v0 = s1 ∧ s1.setCell ⟨w.heap.size + 1, 1, none⟩ v1 = s2 ∧ s2.setCell ⟨w.heap.size + 1, 2, none⟩ v2 = s3 ∧ s3.setCell ⟨w.heap.size + 1, 3, none⟩ v3 = s4 ∧ s4.setCell ⟨w.heap.size + 1, 4, none⟩ v4 = s5 ∧
  ((W'.cell? ⟨w.heap.size + 1, 0, none⟩ = some (.int .i64 0) ∧ s1.cell? ⟨w.heap.size + 1, 1, none⟩ = some (S []) ∧ s2.cell? ⟨w.heap.size + 1, 2, none⟩ = some (.int .i64 0) ∧ s3.cell? ⟨w.heap.size + 1, 3, none⟩ = some (.slice none 0 0) ∧ s4.cell? ⟨w.heap.size + 1, 4, none⟩ = some (.bool false)) ∧
  (W'.frozen? ⟨w.heap.size + 1, 0, none⟩ = false ∧ s1.frozen? ⟨w.heap.size + 1, 1, none⟩ = false ∧ s2.frozen? ⟨w.heap.size + 1, 2, none⟩ = false ∧ s3.frozen? ⟨w.heap.size + 1, 3, none⟩ = false ∧ s4.frozen? ⟨w.heap.size + 1, 4, none⟩ = false)) ∧
  Hid (s5.heap[w.heap.size + 1]? = some (.cells #[v0, v1, v2, v3, v4] 129 (0, 0))) ∧ Hid (PW s5 P G p k') ∧ Hid (Oth P w s5) ∧ Hid (∀ x u0 u1 u2 u3, TreeP (fun b => W.heap.size ≤ b) W' x u0 u1 u2 u3 → TreeP (fun b => w.heap.size ≤ b) s5 x u0 u1 u2 u3) := by
 have hP := h0.lt
 have hR := lt_of_block h.res
 have hs := o.size
 obtain ⟨s1, s2, s3, s4, s5, g1, g2, g3, g4, g5, y, f, hq, ho⟩ := put5p (o.heap h.res (by omega)) v0 v1 v2 v3 v4
 have o5 : Oth P w s5 := (h.oth.trans o).over ho (by omega)
 refine ⟨s1, s2, s3, s4, s5, g1, g2, g3, g4, g5, ⟨y, f⟩, Lib.hid hq, Lib.hid (h0.to o5 ((ho.block P h'.lt (fun e => by have := Option.some.inj e; omega)).trans h'.1)), Lib.hid o5, Lib.hid fun x u0 u1 u2 u3 ht => ?_⟩
 exact TreeP.keep (fun b hb hlt => ho.block b hlt (fun e => by have := Option.some.inj e; omega)) ho.size (fun b _ hb => by omega) _ _ _ _ _ ht
theorem leafQ {q : Nat → Prop} {w : World} (k : Int) (n : List UInt8) (p : Int) (hn : n.length ≤ 1000000) : TreeP q w (.node k n p []) (.int .i64 k) (S n) (.int .i64 p) (.slice none 0 0) := by
 rw [TreeP]; exact ⟨rfl, rfl, hn, rfl, none, 0, rfl, Nat.le_refl _, fun h => absurd rfl h⟩
theorem opd_leaf {p : Lfc.PE} {g : Nat → Lfc.PR (Option Lfc.Opd)} {k : Nat} {kd : Int} {n : List UInt8} {pos : Nat} (h : p.opdG g k = p.leaf k kd n) (hp : (p.pk k).pos = pos) : p.opdG g k = .ok (some ⟨.node kd n (pos : Int) [], false⟩) (k + 1) := by
 rw [h, ← hp]; rfl
set_option maxRecDepth 100000 in
set_option maxHeartbeats 8000000 in
theorem opd_of_expr (p : Lfc.PE) (ok : POk p) (g : Nat → Lfc.PR (Option Lfc.Opd)) (hB : Lfc.OpdB p g) (hE : ExprC p g) : OpdC' p (p.opdG g) := by
 intro P k G w hk hne h
 have hP := h.lt
 have hmf : ∀ (fn : Fn) (first cap : Array Value) (w : World), (Instr.makeFunc fn first cap).run Tryz.prog w = .ok (.func fn first cap) w := fun _ _ _ _ => rfl
 obtain ⟨wa, hwa⟩ : ∃ wa, (w.alloc (.cells #[.pointer (some ⟨P, 0, none⟩)] 93)).alloc (.cells #[.int .i64 0, S [], .int .i64 0, .slice none 0 0, .bool false] 129) = wa := ⟨_, rfl⟩
 have ba : Below w.heap.size w wa := by rw [← hwa]; exact ((Below.refl _ _).alloc (Nat.le_refl _) _).alloc (by simp) _
 have qb : wa.heap[w.heap.size]? = some (.cells #[.pointer (some ⟨P, 0, none⟩)] 93 (0, 0)) := by rw [← hwa]; exact heap_alloc_old _ _ _ _ (heap_alloc_new _ _)
 have qr : wa.heap[w.heap.size + 1]? = some (.cells #[.int .i64 0, S [], .int .i64 0, .slice none 0 0, .bool false] 129 (0, 0)) := by
  rw [← hwa]
  have := heap_alloc_new (w.alloc (.cells #[.pointer (some ⟨P, 0, none⟩)] 93)) (.cells #[.int .i64 0, S [], .int .i64 0, .slice none 0 0, .bool false] 129)
  simpa using this
 have hsa := eq2 (show wa.heap.size = w.heap.size + 2 by rw [← hwa]; simp)
 have CP := Lib.hid (peek_any wa (h.below ba) hk ok)
 have b0 : wa.cell? ⟨w.heap.size, 0, none⟩ = some (.pointer (some ⟨P, 0, none⟩)) := Lib.cell_of_heap qb 0
 have HW := Lib.hid h
 have HE := Lib.hid hE
 have HB := Lib.hid hB
 have HK := Lib.hid ok
 have HNE := Lib.hid hne
 have hlt0 : ∀ t, p.pk k = t → t.kind ≠ 0 → k < p.toks.length := fun t e h => p.pk_lt (by rw [e]; exact h)
 have htx : ∀ t, p.pk k = t → t.kind ≠ 0 → t.text.length ≤ 65536 ∧ (t.kind = 1 → t.text ≠ []) := fun t e h => by
  have h1 := hlt0 t e h
  have := ok.tok _ (List.mem_of_getElem? (PE.pk_of h1))
  rw [e] at this
  exact this
 have BA := Lib.hid ba
 have QB := Lib.hid qb
 have QR := Lib.hid qr
 obtain ⟨⟨tk, tx, tp⟩, hpk⟩ : ∃ t, p.pk k = t := ⟨_, rfl⟩
 have hlt0 := hlt0 _ hpk
 have htx := htx _ hpk
 rw [hpk] at CP
 simp only at CP hlt0 htx
 have HPK := Lib.hid hpk
 have HK1 : (p.pk k).kind = tk := by rw [hpk]
 have HK2 : (p.pk k).text = tx := by rw [hpk]
 have HK3 : (p.pk k).pos = tp := by rw [hpk]
 have HKK := Lib.hid (And.intro HK1 (And.intro HK2 HK3))
 clear h hE hB ok ba qb qr hne hpk HK1 HK2 HK3
 go_enter Tryz.func64, Tryz.ntmps64
 go_upto_region 1 with fail
 clear hwa
 go_upto_region 2 with (go_at_call 63; refine CP.out.mono ?_; rintro e w1 ⟨rfl, b1⟩)
 have hs1 := b1.size
 obtain ⟨w2, hw2⟩ : ∃ w2, w1.alloc (.cells #[.int .i64 tk, S tx, .int .i64 (tp : Int)] 65) = w2 := ⟨_, rfl⟩
 have b2 : Below w1.heap.size w1 w2 := by rw [← hw2]; exact (Below.refl _ _).alloc (Nat.le_refl _) _
 have q2 : w2.heap[w1.heap.size]? = some (.cells #[.int .i64 tk, S tx, .int .i64 (tp : Int)] 65 (0, 0)) := by rw [← hw2]; exact heap_alloc_new _ _
 rw [hw2]
 have hs2 := eq2 (show w2.heap.size = w1.heap.size + 1 by rw [← hw2]; simp)
 have bw2 : Below w.heap.size w w2 := BA.out.trans ((b1.mono BA.out.size).trans (b2.mono (by omega)))
 obtain ⟨T, hT⟩ : ∃ T, w1.heap.size = T := ⟨_, rfl⟩
 rw [hT] at q2 hs2
 have S2 : Hid (OpS w P G p k ⟨tk, tx, tp⟩ T w2) := Lib.hid ⟨HW.out.below bw2, Oth.of_below bw2, (b2.block _ (by omega)).trans ((b1.block _ (by omega)).trans QB.out), (b2.block _ (by omega)).trans ((b1.block _ (by omega)).trans QR.out), q2, by omega⟩
 rw [hT]
 have hltT : w.heap.size + 1 < T := S2.out.lt
 have r0 : w2.cell? ⟨w.heap.size, 0, none⟩ = some (.pointer (some ⟨P, 0, none⟩)) := Lib.cell_of_heap S2.out.box 0
 have t0 : w2.cell? ⟨T, 0, none⟩ = some (.int .i64 tk) := Lib.cell_of_heap S2.out.tok 0
 have t1 : w2.cell? ⟨T, 1, none⟩ = some (S tx) := Lib.cell_of_heap S2.out.tok 1
 have t2 : w2.cell? ⟨T, 2, none⟩ = some (.int .i64 (tp : Int)) := Lib.cell_of_heap S2.out.tok 2
 have hR2 := lt_of_block S2.out.res
 have hT2 := lt_of_block S2.out.tok
 have CL : Hid (k < p.toks.length → ∀ (kd : Int) (n : List UInt8), Calls Tryz.prog 115 #[.int .i64 kd, S n, .pointer (some ⟨w.heap.size, 0, none⟩), .pointer (some ⟨T, 0, none⟩)] w2 fun e w' => e = .returned (.tuple #[.agg #[.int .i64 kd, S n, .int .i64 (tp : Int), .slice none 0 0, .bool false], .bool true]) ∧ PW w' P G p (k + 1) ∧ Oth P w2 w') := Lib.hid fun hk2 kd n => leaf_any kd n w2 S2.out.pw hk2 HK.out r0 t2 (by omega) hT2 (by omega)
 clear hw2 b2 q2 bw2 hT CP b0 t2
 by_cases hk1 : tk = 1
 ·subst hk1
  have hkl := hlt0 (by decide)
  obtain ⟨htl, htn⟩ := htx (by decide)
  have htn := htn rfl
  have HNM : Hid (∀ n : List UInt8, n.length ≤ 65536 → ∀ W, Calls Tryz.prog 80 #[S n] W fun e w' => e = .returned (.bool (Lfc.isName n)) ∧ W = w') := Lib.hid fun n hn W => isName_any n W (by omega)
  cases hnm : Lfc.isName tx
  ·have HN1 := Lib.hid (HNM.out tx htl)
   rw [hnm] at HN1
   obtain ⟨c, r, rfl⟩ := List.exists_cons_of_ne_nil htn
   have hrl : r.length ≤ 65536 := by simp at htl; omega
   by_cases hc : c.toNat = 64
   ·have hc2 : ((c.toNat : Int) == 64) = true := by simp; omega
    have HN2 := Lib.hid (HNM.out r hrl)
    cases hnr : Lfc.isName r
    ·rw [hnr] at HN2
     have HF : Hid (p.opdG g k = .ok none k) := Lib.hid (by unfold Lfc.PE.opdG; rw [if_pos HKK.out.1, HKK.out.2.1, if_neg (by simp [hnm]), if_neg (by simp [hnr])])
     obtain ⟨s1, s2, s3, s4, s5, g1, g2, g3, g4, g5, ⟨⟨y0, y1, y2, y3, y4⟩, ⟨f0, f1, f2, f3, f4⟩⟩, HQ, HP5, HO5, HT5⟩ := S2.out.fin HW.out S2.out.pw (Oth.refl _ _) (.int .i64 0) (S []) (.int .i64 0) (.slice none 0 0) (.bool false)
     go_wp2_with (first | fail | (go_at_call 80; with_reducible refine (HN1.out _).mono ?_; rintro e w9 ⟨rfl, rfl⟩) | (go_at_call 80; refine (HN2.out _).mono ?_; rintro e w9 ⟨rfl, rfl⟩))
     refine bodyPost_ret (results_opdP2 rfl _ _ _ _ _ _ _ _ rfl HQ.out) rfl ?_
     rw [HF.out]
     exact ⟨⟨_, rfl, rfl⟩, HP5.out, HO5.out⟩
    ·rw [hnr] at HN2
     have HF : Hid (p.opdG g k = .ok (some ⟨.node 2 r (tp : Int) [], false⟩) (k + 1)) := Lib.hid (opd_leaf (by unfold Lfc.PE.opdG; rw [if_pos HKK.out.1, HKK.out.2.1, if_neg (by simp [hnm]), if_pos (by simp [hc, hnr])]; rfl) HKK.out.2.2)
     have CF := Lib.hid (CL.out hkl 2 r)
     go_wp2_with (first | (go_at_call 115; refine CF.out.mono ?_; rintro e w3 ⟨rfl, h3, o3⟩; obtain ⟨s1, s2, s3, s4, s5, g1, g2, g3, g4, g5, ⟨⟨y0, y1, y2, y3, y4⟩, ⟨f0, f1, f2, f3, f4⟩⟩, HQ, HP5, HO5, HT5⟩ := S2.out.fin HW.out h3 o3 (.int .i64 2) (S r) (.int .i64 (tp : Int)) (.slice none 0 0) (.bool false)) | (go_at_call 80; with_reducible refine (HN1.out _).mono ?_; rintro e w9 ⟨rfl, rfl⟩) | (go_at_call 80; refine (HN2.out _).mono ?_; rintro e w9 ⟨rfl, rfl⟩))
     refine bodyPost_ret (results_opdP2 rfl _ _ _ _ _ _ _ _ rfl HQ.out) rfl ?_
     rw [HF.out]
     exact ⟨⟨_, rfl, _, _, _, _, _, _, rfl, rfl, leafQ _ _ _ (by omega)⟩, HP5.out, HO5.out⟩
   ·have hc2 : ((c.toNat : Int) == 64) = false := by simp; omega
    have HF : Hid (p.opdG g k = .ok none k) := Lib.hid (by unfold Lfc.PE.opdG; rw [if_pos HKK.out.1, HKK.out.2.1, if_neg (by simp [hnm]), if_neg (by simp [hc])])
    obtain ⟨s1, s2, s3, s4, s5, g1, g2, g3, g4, g5, ⟨⟨y0, y1, y2, y3, y4⟩, ⟨f0, f1, f2, f3, f4⟩⟩, HQ, HP5, HO5, HT5⟩ := S2.out.fin HW.out S2.out.pw (Oth.refl _ _) (.int .i64 0) (S []) (.int .i64 0) (.slice none 0 0) (.bool false)
    go_wp2_with (first | fail | (go_at_call 80; refine (HN1.out _).mono ?_; rintro e w9 ⟨rfl, rfl⟩))
    refine bodyPost_ret (results_opdP2 rfl _ _ _ _ _ _ _ _ rfl HQ.out) rfl ?_
    rw [HF.out]
    exact ⟨⟨_, rfl, rfl⟩, HP5.out, HO5.out⟩
  ·have HN1 := Lib.hid (HNM.out tx htl)
   rw [hnm] at HN1
   have HF : Hid (p.opdG g k = .ok (some ⟨.node 1 tx (tp : Int) [], false⟩) (k + 1)) := Lib.hid (opd_leaf (by unfold Lfc.PE.opdG; rw [if_pos HKK.out.1, HKK.out.2.1, if_pos hnm]) HKK.out.2.2)
   have CF := Lib.hid (CL.out hkl 1 tx)
   go_wp2_with (first | (go_at_call 115; refine CF.out.mono ?_; rintro e w3 ⟨rfl, h3, o3⟩; obtain ⟨s1, s2, s3, s4, s5, g1, g2, g3, g4, g5, ⟨⟨y0, y1, y2, y3, y4⟩, ⟨f0, f1, f2, f3, f4⟩⟩, HQ, HP5, HO5, HT5⟩ := S2.out.fin HW.out h3 o3 (.int .i64 1) (S tx) (.int .i64 (tp : Int)) (.slice none 0 0) (.bool false)) | (go_at_call 80; refine (HN1.out _).mono ?_; rintro e w9 ⟨rfl, rfl⟩))
   refine bodyPost_ret (results_opdP2 rfl _ _ _ _ _ _ _ _ rfl HQ.out) rfl ?_
   rw [HF.out]
   exact ⟨⟨_, rfl, _, _, _, _, _, _, rfl, rfl, leafQ _ _ _ (by omega)⟩, HP5.out, HO5.out⟩
 ·have hk1' : (tk == 1) = false := by simpa using hk1
  by_cases hk2 : tk = 2
  ·subst hk2
   have hkl := hlt0 (by decide)
   have HE0 : Hid (∀ r, (if (p.pk k).text = [95] then p.leaf k 3 [] else if (p.pk k).text = [116, 121, 112, 101] then p.leaf k 4 [] else if (p.pk k).text = [45, 62] ∨ (p.pk k).text = [60, 45] then p.leaf k 1 (p.pk k).text else if (p.pk k).text = [40] then (p.parG g k).opt else if (p.pk k).text = [123] then (p.bindG g 7 [125] k).opt else if (p.pk k).text = [91] then (p.bindG g 8 [93] k).opt else .ok none k) = r → p.opdG g k = r) := Lib.hid fun r h => by
    unfold Lfc.PE.opdG
    rw [if_neg (by rw [HKK.out.1]; decide), if_neg (by rw [HKK.out.1]; decide)]
    exact h
   clear hk1 hk1' htx
   by_cases e0 : tx = [95]
   ·subst e0
    have HF : Hid (p.opdG g k = .ok (some ⟨.node 3 [] (tp : Int) [], false⟩) (k + 1)) := Lib.hid (opd_leaf (HE0.out _ (by rw [HKK.out.2.1]; rfl)) HKK.out.2.2)
    have CF := Lib.hid (CL.out hkl 3 [])
    go_wp2_with (first | (go_at_call 115; refine CF.out.mono ?_; rintro e w3 ⟨rfl, h3, o3⟩; obtain ⟨s1, s2, s3, s4, s5, g1, g2, g3, g4, g5, ⟨⟨y0, y1, y2, y3, y4⟩, ⟨f0, f1, f2, f3, f4⟩⟩, HQ, HP5, HO5, HT5⟩ := S2.out.fin HW.out h3 o3 (.int .i64 3) (S []) (.int .i64 (tp : Int)) (.slice none 0 0) (.bool false)))
    refine bodyPost_ret (results_opdP2 rfl _ _ _ _ _ _ _ _ rfl HQ.out) rfl ?_
    rw [HF.out]
    exact ⟨⟨_, rfl, _, _, _, _, _, _, rfl, rfl, leafQ _ _ _ (by simp)⟩, HP5.out, HO5.out⟩
   have n0 : (tx == ([95] : List UInt8)) = false := beq_eq_false_iff_ne.2 e0
   by_cases e1 : tx = [116, 121, 112, 101]
   ·subst e1
    have HF : Hid (p.opdG g k = .ok (some ⟨.node 4 [] (tp : Int) [], false⟩) (k + 1)) := Lib.hid (opd_leaf (HE0.out _ (by rw [HKK.out.2.1]; rfl)) HKK.out.2.2)
    have CF := Lib.hid (CL.out hkl 4 [])
    go_wp2_with (first | (go_at_call 115; refine CF.out.mono ?_; rintro e w3 ⟨rfl, h3, o3⟩; obtain ⟨s1, s2, s3, s4, s5, g1, g2, g3, g4, g5, ⟨⟨y0, y1, y2, y3, y4⟩, ⟨f0, f1, f2, f3, f4⟩⟩, HQ, HP5, HO5, HT5⟩ := S2.out.fin HW.out h3 o3 (.int .i64 4) (S []) (.int .i64 (tp : Int)) (.slice none 0 0) (.bool false)))
    refine bodyPost_ret (results_opdP2 rfl _ _ _ _ _ _ _ _ rfl HQ.out) rfl ?_
    rw [HF.out]
    exact ⟨⟨_, rfl, _, _, _, _, _, _, rfl, rfl, leafQ _ _ _ (by simp)⟩, HP5.out, HO5.out⟩
   have n1 : (tx == ([116, 121, 112, 101] : List UInt8)) = false := beq_eq_false_iff_ne.2 e1
   by_cases e2 : tx = [45, 62]
   ·subst e2
    have HF : Hid (p.opdG g k = .ok (some ⟨.node 1 [45, 62] (tp : Int) [], false⟩) (k + 1)) := Lib.hid (opd_leaf (HE0.out _ (by rw [HKK.out.2.1]; rfl)) HKK.out.2.2)
    have CF := Lib.hid (CL.out hkl 1 [45, 62])
    go_wp2_with (first | (go_at_call 115; refine CF.out.mono ?_; rintro e w3 ⟨rfl, h3, o3⟩; obtain ⟨s1, s2, s3, s4, s5, g1, g2, g3, g4, g5, ⟨⟨y0, y1, y2, y3, y4⟩, ⟨f0, f1, f2, f3, f4⟩⟩, HQ, HP5, HO5, HT5⟩ := S2.out.fin HW.out h3 o3 (.int .i64 1) (S [45, 62]) (.int .i64 (tp : Int)) (.slice none 0 0) (.bool false)))
    refine bodyPost_ret (results_opdP2 rfl _ _ _ _ _ _ _ _ rfl HQ.out) rfl ?_
    rw [HF.out]
    exact ⟨⟨_, rfl, _, _, _, _, _, _, rfl, rfl, leafQ _ _ _ (by simp)⟩, HP5.out, HO5.out⟩
   have n2 : (tx == ([45, 62] : List UInt8)) = false := beq_eq_false_iff_ne.2 e2
   by_cases e3 : tx = [60, 45]
   ·subst e3
    have HF : Hid (p.opdG g k = .ok (some ⟨.node 1 [60, 45] (tp : Int) [], false⟩) (k + 1)) := Lib.hid (opd_leaf (HE0.out _ (by rw [HKK.out.2.1]; rfl)) HKK.out.2.2)
    have CF := Lib.hid (CL.out hkl 1 [60, 45])
    go_wp2_with (first | (go_at_call 115; refine CF.out.mono ?_; rintro e w3 ⟨rfl, h3, o3⟩; obtain ⟨s1, s2, s3, s4, s5, g1, g2, g3, g4, g5, ⟨⟨y0, y1, y2, y3, y4⟩, ⟨f0, f1, f2, f3, f4⟩⟩, HQ, HP5, HO5, HT5⟩ := S2.out.fin HW.out h3 o3 (.int .i64 1) (S [60, 45]) (.int .i64 (tp : Int)) (.slice none 0 0) (.bool false)))
    refine bodyPost_ret (results_opdP2 rfl _ _ _ _ _ _ _ _ rfl HQ.out) rfl ?_
    rw [HF.out]
    exact ⟨⟨_, rfl, _, _, _, _, _, _, rfl, rfl, leafQ _ _ _ (by simp)⟩, HP5.out, HO5.out⟩
   have n3 : (tx == ([60, 45] : List UInt8)) = false := beq_eq_false_iff_ne.2 e3
   by_cases e4 : tx = [40]
   ·subst e4
    have HFO : Hid (p.opdG g k = (p.parG g k).opt) := Lib.hid (HE0.out _ (by rw [HKK.out.2.1]; rfl))
    have hne2 : p.parG g k ≠ .out := fun e => HNE.out (by rw [HFO.out, e]; rfl)
    have hcc := par_of_expr p HK.out g HB.out HE.out P k G w2 hkl hne2 S2.out.pw
    cases hpr : p.parG g k with
    | out => exact absurd hpr hne2
    | err cc aa =>
     rw [hpr] at hcc
     have CC := Lib.hid hcc
     have HF : Hid (p.opdG g k = .err cc aa) := Lib.hid (by rw [HFO.out, hpr]; rfl)
     clear hcc hpr
     go_wp2_with (go_at_call 116; refine CC.out.mono ?_; rintro e w3 ⟨rfl, o3⟩)
     rw [HF.out]
     exact ⟨rfl, rfl, S2.out.oth.trans o3⟩
    | ok x k9 =>
     rw [hpr] at hcc
     have CC := Lib.hid hcc
     have HF : Hid (p.opdG g k = .ok (some x) k9) := Lib.hid (by rw [HFO.out, hpr]; rfl)
     clear hcc hpr
     go_wp2_with (go_at_call 116; refine CC.out.mono ?_; rintro e w3 ⟨⟨v, rfl, ⟨kx, nx, qx, ux, Ax, cx, rfl, hnd, hcl, htx⟩⟩, h3, o3⟩; obtain ⟨s1, s2, s3, s4, s5, g1, g2, g3, g4, g5, ⟨⟨y0, y1, y2, y3, y4⟩, ⟨f0, f1, f2, f3, f4⟩⟩, HQ, HP5, HO5, HT5⟩ := S2.out.fin HW.out h3 o3 (.int .i64 kx) (S nx) (.int .i64 qx) (.slice Ax ux.length cx) (.bool true); have HT9 := Lib.hid (HT5.out _ _ _ _ _ htx); have HND := Lib.hid (And.intro hnd hcl); clear htx hnd hcl)
     refine bodyPost_ret (results_opdP2 rfl _ _ _ _ _ _ _ _ rfl HQ.out) rfl ?_
     rw [HF.out]
     exact ⟨⟨_, rfl, kx, nx, qx, ux, Ax, cx, by (rw [HND.out.2] <;> rfl), HND.out.1, HT9.out⟩, HP5.out, HO5.out⟩
   have n4 : (tx == ([40] : List UInt8)) = false := beq_eq_false_iff_ne.2 e4
   by_cases e5 : tx = [123]
   ·subst e5
    have HFO : Hid (p.opdG g k = (p.bindG g 7 [125] k).opt) := Lib.hid (HE0.out _ (by rw [HKK.out.2.1]; rfl))
    have hne2 : p.bindG g 7 [125] k ≠ .out := fun e => HNE.out (by rw [HFO.out, e]; rfl)
    have hcc := bind_of_expr p HK.out g HB.out HE.out 7 [125] P k G w2 hkl hne2 S2.out.pw
    cases hpr : p.bindG g 7 [125] k with
    | out => exact absurd hpr hne2
    | err cc aa =>
     rw [hpr] at hcc
     have CC := Lib.hid hcc
     have HF : Hid (p.opdG g k = .err cc aa) := Lib.hid (by rw [HFO.out, hpr]; rfl)
     clear hcc hpr
     go_wp2_with (go_at_call 117; refine CC.out.mono ?_; rintro e w3 ⟨rfl, o3⟩)
     rw [HF.out]
     exact ⟨rfl, rfl, S2.out.oth.trans o3⟩
    | ok x k9 =>
     rw [hpr] at hcc
     have CC := Lib.hid hcc
     have HF : Hid (p.opdG g k = .ok (some x) k9) := Lib.hid (by rw [HFO.out, hpr]; rfl)
     clear hcc hpr
     go_wp2_with (go_at_call 117; refine CC.out.mono ?_; rintro e w3 ⟨⟨v, rfl, ⟨kx, nx, qx, ux, Ax, cx, rfl, hnd, hcl, htx⟩⟩, h3, o3⟩; obtain ⟨s1, s2, s3, s4, s5, g1, g2, g3, g4, g5, ⟨⟨y0, y1, y2, y3, y4⟩, ⟨f0, f1, f2, f3, f4⟩⟩, HQ, HP5, HO5, HT5⟩ := S2.out.fin HW.out h3 o3 (.int .i64 kx) (S nx) (.int .i64 qx) (.slice Ax ux.length cx) (.bool true); have HT9 := Lib.hid (HT5.out _ _ _ _ _ htx); have HND := Lib.hid (And.intro hnd hcl); clear htx hnd hcl)
     refine bodyPost_ret (results_opdP2 rfl _ _ _ _ _ _ _ _ rfl HQ.out) rfl ?_
     rw [HF.out]
     exact ⟨⟨_, rfl, kx, nx, qx, ux, Ax, cx, by (rw [HND.out.2] <;> rfl), HND.out.1, HT9.out⟩, HP5.out, HO5.out⟩
   have n5 : (tx == ([123] : List UInt8)) = false := beq_eq_false_iff_ne.2 e5
   by_cases e6 : tx = [91]
   ·subst e6
    have HFO : Hid (p.opdG g k = (p.bindG g 8 [93] k).opt) := Lib.hid (HE0.out _ (by rw [HKK.out.2.1]; rfl))
    have hne2 : p.bindG g 8 [93] k ≠ .out := fun e => HNE.out (by rw [HFO.out, e]; rfl)
    have hcc := bind_of_expr p HK.out g HB.out HE.out 8 [93] P k G w2 hkl hne2 S2.out.pw
    cases hpr : p.bindG g 8 [93] k with
    | out => exact absurd hpr hne2
    | err cc aa =>
     rw [hpr] at hcc
     have CC := Lib.hid hcc
     have HF : Hid (p.opdG g k = .err cc aa) := Lib.hid (by rw [HFO.out, hpr]; rfl)
     clear hcc hpr
     go_wp2_with (go_at_call 117; refine CC.out.mono ?_; rintro e w3 ⟨rfl, o3⟩)
     rw [HF.out]
     exact ⟨rfl, rfl, S2.out.oth.trans o3⟩
    | ok x k9 =>
     rw [hpr] at hcc
     have CC := Lib.hid hcc
     have HF : Hid (p.opdG g k = .ok (some x) k9) := Lib.hid (by rw [HFO.out, hpr]; rfl)
     clear hcc hpr
     go_wp2_with (go_at_call 117; refine CC.out.mono ?_; rintro e w3 ⟨⟨v, rfl, ⟨kx, nx, qx, ux, Ax, cx, rfl, hnd, hcl, htx⟩⟩, h3, o3⟩; obtain ⟨s1, s2, s3, s4, s5, g1, g2, g3, g4, g5, ⟨⟨y0, y1, y2, y3, y4⟩, ⟨f0, f1, f2, f3, f4⟩⟩, HQ, HP5, HO5, HT5⟩ := S2.out.fin HW.out h3 o3 (.int .i64 kx) (S nx) (.int .i64 qx) (.slice Ax ux.length cx) (.bool true); have HT9 := Lib.hid (HT5.out _ _ _ _ _ htx); have HND := Lib.hid (And.intro hnd hcl); clear htx hnd hcl)
     refine bodyPost_ret (results_opdP2 rfl _ _ _ _ _ _ _ _ rfl HQ.out) rfl ?_
     rw [HF.out]
     exact ⟨⟨_, rfl, kx, nx, qx, ux, Ax, cx, by (rw [HND.out.2] <;> rfl), HND.out.1, HT9.out⟩, HP5.out, HO5.out⟩
   have n6 : (tx == ([91] : List UInt8)) = false := beq_eq_false_iff_ne.2 e6
   have HNO : Hid (tx ≠ [95] ∧ tx ≠ [116, 121, 112, 101] ∧ tx ≠ [45, 62] ∧ tx ≠ [60, 45] ∧ tx ≠ [40] ∧ tx ≠ [123] ∧ tx ≠ [91]) := Lib.hid ⟨e0, e1, e2, e3, e4, e5, e6⟩
   clear e0 e1 e2 e3 e4 e5 e6
   have HF : Hid (p.opdG g k = .ok none k) := Lib.hid (HE0.out _ (by obtain ⟨a, b, c, d, e, f, h⟩ := HNO.out; rw [HKK.out.2.1, if_neg a, if_neg b, if_neg (by rintro (h | h); exact c h; exact d h), if_neg e, if_neg f, if_neg h]))
   obtain ⟨s1, s2, s3, s4, s5, g1, g2, g3, g4, g5, ⟨⟨y0, y1, y2, y3, y4⟩, ⟨f0, f1, f2, f3, f4⟩⟩, HQ, HP5, HO5, HT5⟩ := S2.out.fin HW.out S2.out.pw (Oth.refl _ _) (.int .i64 0) (S []) (.int .i64 0) (.slice none 0 0) (.bool false)
   go_wp2_with (fail)
   refine bodyPost_ret (results_opdP2 rfl _ _ _ _ _ _ _ _ rfl HQ.out) rfl ?_
   rw [HF.out]
   exact ⟨⟨_, rfl, rfl⟩, HP5.out, HO5.out⟩
  ·have hk2' : (tk != 2) = true := by simpa using hk2
   have HF : Hid (p.opdG g k = .ok none k) := Lib.hid (by unfold Lfc.PE.opdG; rw [if_neg (by rw [HKK.out.1]; exact hk1), if_pos (by rw [HKK.out.1]; exact hk2)])
   obtain ⟨s1, s2, s3, s4, s5, g1, g2, g3, g4, g5, ⟨⟨y0, y1, y2, y3, y4⟩, ⟨f0, f1, f2, f3, f4⟩⟩, HQ, HP5, HO5, HT5⟩ := S2.out.fin HW.out S2.out.pw (Oth.refl _ _) (.int .i64 0) (S []) (.int .i64 0) (.slice none 0 0) (.bool false)
   go_wp2_with (fail)
   refine bodyPost_ret (results_opdP2 rfl _ _ _ _ _ _ _ _ rfl HQ.out) rfl ?_
   rw [HF.out]
   exact ⟨⟨_, rfl, rfl⟩, HP5.out, HO5.out⟩
end Go.Proofs.YthajalgkjonaaaaGreatDoor
namespace Go.Proofs.YthajalgkjonaaaaGreatDoor
open Go.RowKit
theorem opdF_c (p : Lfc.PE) (ok : POk p) : ∀ f, OpdC' p (p.opdF f)
 | 0 => fun P k G w hk hne h => absurd rfl hne
 | f + 1 => opd_of_expr p ok (p.opdF f) (Lfc.opdF_b p f) (fun P k G w hk hne h => expr_of p ok (p.opdF f) (Lfc.opdF_b p f) (fun k x k' h hc => Lfc.opdF_args p f k x k' h hc) (opdF_c p ok f) P k G w hk hne h)
theorem expr_any (p : Lfc.PE) (ok : POk p) (P k : Nat) (G : Hd) (w : World) (hk : k ≤ p.toks.length) (h : PW w P G p k) :
  Calls Tryz.prog 35 #[.pointer (some ⟨P, 0, none⟩)] w (PRes P G p w (RawR w) (p.expr k)) :=
 expr_of p ok _ (Lfc.opdF_b p _) (fun k x k' h hc => Lfc.opdF_args p _ k x k' h hc) (opdF_c p ok _) P k G w hk (Lfc.expr_ne p k) h
end Go.Proofs.YthajalgkjonaaaaGreatDoor
namespace Lfc
theorem item_induct (P : List UInt8 → Prop) (h0 : P []) (h1 : ∀ c r, (nx (c :: r)).err ≠ 0 → P (c :: r))
  (h2 : ∀ c r, (nx (c :: r)).err = 0 → P ((c :: r).drop (nx (c :: r)).len) → P (c :: r)) : ∀ l, P l := by
 have main : ∀ m (l : List UInt8), l.length ≤ m → P l := by
  intro m
  induction m with
  | zero => intro l hl; obtain rfl := List.eq_nil_of_length_eq_zero (by omega : l.length = 0); exact h0
  | succ m ih =>
   intro l hl
   match l, hl with
   | [], _ => exact h0
   | c :: r, hl =>
    by_cases he : (nx (c :: r)).err = 0
    ·have := nx_len c r he
     refine h2 c r he (ih _ ?_)
     rw [List.length_drop, List.length_cons]
     simp only [List.length_cons] at hl
     omega
    ·exact h1 c r he
 exact fun l => main _ l (Nat.le_refl _)
def put (x : Nx) (n : Nat) (y : List Tok × Int × Nat) : List Tok × Int × Nat :=
 if x.kind = 0 then y else if y.2.1 = 0 then (⟨x.kind, x.text, n⟩ :: y.1, y.2) else ([], y.2)
def scF : Nat → Nat → List UInt8 → List Tok × Int × Nat
 | 0, n, _ => ([], 0, n)
 | _ + 1, n, [] => ([], 0, n)
 | f + 1, n, c :: r =>
  if (nx (c :: r)).err ≠ 0 then ([], (nx (c :: r)).err, n)
  else put (nx (c :: r)) n (scF f (n + (nx (c :: r)).len) ((c :: r).drop (nx (c :: r)).len))
def sc (n : Nat) (l : List UInt8) : List Tok × Int × Nat := scF l.length n l
theorem scF_any : ∀ (m f g n : Nat) (l : List UInt8), l.length ≤ m → l.length ≤ f → l.length ≤ g → scF f n l = scF g n l := by
 intro m
 induction m with
 | zero =>
  intro f g n l h _ _
  obtain rfl := List.eq_nil_of_length_eq_zero (by omega : l.length = 0)
  cases f <;> cases g <;> rfl
 | succ m ih =>
  intro f g n l h hf hg
  match l, h, hf, hg with
  | [], _, _, _ => cases f <;> cases g <;> rfl
  | c :: r, h, hf, hg =>
   simp only [List.length_cons] at h hf hg
   obtain ⟨f, rfl⟩ : ∃ k, f = k + 1 := ⟨f - 1, by omega⟩
   obtain ⟨g, rfl⟩ : ∃ k, g = k + 1 := ⟨g - 1, by omega⟩
   rw [scF, scF]
   by_cases he : (nx (c :: r)).err ≠ 0
   ·rw [if_pos he, if_pos he]
   ·have hl := nx_len c r (by simpa using he)
    have hd : ((c :: r).drop (nx (c :: r)).len).length ≤ r.length := by rw [List.length_drop, List.length_cons]; omega
    rw [if_neg he, if_neg he, ih f g _ _ (by omega) (by omega) (by omega)]
theorem sc_nil (n : Nat) : sc n [] = ([], 0, n) := rfl
theorem sc_err (n : Nat) (c : UInt8) (r : List UInt8) (h : (nx (c :: r)).err ≠ 0) : sc n (c :: r) = ([], (nx (c :: r)).err, n) := by
 rw [sc, List.length_cons, scF, if_pos h]
theorem sc_ok (n : Nat) (c : UInt8) (r : List UInt8) (h : (nx (c :: r)).err = 0) : sc n (c :: r) = put (nx (c :: r)) n (sc (n + (nx (c :: r)).len) ((c :: r).drop (nx (c :: r)).len)) := by
 have hl := nx_len c r h
 have hd : ((c :: r).drop (nx (c :: r)).len).length ≤ r.length := by rw [List.length_drop, List.length_cons]; omega
 rw [sc, List.length_cons, scF, if_neg (by simpa using h), sc, scF_any r.length r.length _ _ _ hd hd (Nat.le_refl _)]
theorem put_snd (x : Nx) (n : Nat) (y : List Tok × Int × Nat) : (put x n y).2 = y.2 := by
 unfold put; split
 ·rfl
 ·split <;> rfl
theorem put_fst (x : Nx) (n : Nat) (y : List Tok × Int × Nat) (h : y.2.1 = 0) : (put x n y).1 = (if x.kind = 0 then [] else [⟨x.kind, x.text, n⟩]) ++ y.1 := by
 unfold put; split
 ·rfl
 ·first | rfl | (rw [if_pos h]; rfl)
theorem put_none (x : Nx) (n : Nat) (y : List Tok × Int × Nat) (h : y.2.1 ≠ 0) (h1 : y.1 = []) : put x n y = y := by
 unfold put; split
 ·rfl
 ·first | exact Prod.ext h1.symm rfl | (rw [if_neg h]; exact Prod.ext h1.symm rfl)
theorem sc_none (l : List UInt8) : ∀ n, (sc n l).2.1 ≠ 0 → (sc n l).1 = [] := by
 induction l using item_induct with
 | h0 => intro n _; rfl
 | h1 c r he => intro n _; rw [sc_err _ _ _ he]
 | h2 c r he ih =>
  intro n h
  rw [sc_ok _ _ _ he] at h ⊢
  rw [put_snd] at h
  rw [put_none _ _ _ h (ih _ h)]
  exact ih _ h
def brk : Bool → List UInt8 → Nat
 | _, [] => 0
 | p, c :: r => (if p && letterB c then 0 else 1) + brk (letterB c) r
theorem brk_le (p : Bool) (l : List UInt8) : brk p l ≤ brk false l ∧ brk false l ≤ brk p l + 1 := by
 cases l with
 | nil => simp [brk]
 | cons c r => simp only [brk]; cases p <;> cases letterB c <;> simp <;> omega
theorem brk_drop : ∀ (m : Nat) (c : UInt8) (r : List UInt8) (p : Bool), m ≤ r.length → (if p && letterB c then 0 else 1) + brk (letterB ((c :: r).getD m 0)) (r.drop m) ≤ brk p (c :: r) := by
 intro m
 induction m with
 | zero => intro c r p _; simp [brk]
 | succ m ih =>
  intro c r p h
  match r, h with
  | b :: q, h =>
   have := ih b q (letterB c) (by simpa using h)
   simp only [List.drop_succ_cons, brk] at this ⊢
   simp only [List.getD_cons_succ] at this ⊢
   split at this <;> omega
theorem runLen_take (p : UInt8 → Bool) (l : List UInt8) : ∀ b ∈ l.take (runLen p l), p b = true := by
 induction l with
 | nil => intro b hb; simp at hb
 | cons c r ih =>
  intro b hb
  rw [runLen] at hb
  split at hb
  ·rename_i hc
   rw [List.take_succ_cons] at hb
   rcases List.mem_cons.1 hb with rfl | hb
   ·exact hc
   ·exact ih b hb
  ·simp at hb
theorem runLen_stop (p : UInt8 → Bool) (l : List UInt8) : ∀ d q, l.drop (runLen p l) = d :: q → p d = false := by
 induction l with
 | nil => intro d q h; simp at h
 | cons c r ih =>
  intro d q h
  rw [runLen] at h
  split at h
  ·rw [List.drop_succ_cons] at h; exact ih d q h
  ·rename_i hc
   rw [List.drop_zero] at h
   cases h
   simpa using hc
theorem runLen_app (p : UInt8 → Bool) (a b : List UInt8) (ha : ∀ x ∈ a, p x = true) (hb : ∀ d q, b = d :: q → p d = false) : runLen p (a ++ b) = a.length := by
 induction a with
 | nil =>
  cases b with
  | nil => rfl
  | cons d q => rw [List.nil_append, runLen, if_neg (by rw [hb d q rfl]; simp)]; rfl
 | cons c r ih =>
  rw [List.cons_append, runLen, if_pos (ha c (List.mem_cons_self)), ih fun x hx => ha x (List.mem_cons_of_mem _ hx)]
  rfl
def valid (t : Tok) : Prop :=
 ((t.kind = if reservedB t.text then 2 else 1) ∧ t.text ≠ [] ∧ t.text.length ≤ 64 ∧ ∀ b ∈ t.text, nameB b = true) ∨
 (t.kind = 2 ∧ ∃ c, specialB c = true ∧ t.text = [c]) ∨
 (t.kind = 3 ∧ t.text ≠ [] ∧ t.text.length ≤ 64 ∧ ∀ b ∈ t.text, letterB b = true)
theorem nx_tok (c : UInt8) (r : List UInt8) (he : (nx (c :: r)).err = 0) (hk : (nx (c :: r)).kind ≠ 0) :
  (nameB c = true ∧ runLen nameB (c :: r) ≤ 64 ∧ nx (c :: r) = ⟨if reservedB ((c :: r).take (runLen nameB (c :: r))) then 2 else 1, (c :: r).take (runLen nameB (c :: r)), runLen nameB (c :: r), 0⟩) ∨
  (specialB c = true ∧ nx (c :: r) = ⟨2, [c], 1, 0⟩) ∨
  (c.toNat = 37 ∧ 1 ≤ runLen letterB r ∧ runLen letterB r ≤ 64 ∧ nx (c :: r) = ⟨3, r.take (runLen letterB r), runLen letterB r + 1, 0⟩) := by
 cases hb : blankB c
 ·by_cases h37 : c.toNat = 37
  ·have e : nx (c :: r) = pc r := by simp only [nx]; rw [hb, if_neg (by simp), if_pos h37]
   rw [e] at he hk ⊢
   refine .inr (.inr ⟨h37, ?_⟩)
   match r with
   | [] => simp [pc] at hk
   | b :: r' =>
    simp only [pc] at he hk ⊢
    by_cases h123 : b.toNat = 123
    ·rw [if_pos h123] at hk
     split at hk <;> simp at hk
    ·rw [if_neg h123] at he hk ⊢
     by_cases h0 : runLen letterB (b :: r') = 0
     ·rw [if_pos h0] at hk; simp at hk
     ·rw [if_neg h0] at he hk ⊢
      by_cases h64 : 64 < runLen letterB (b :: r')
      ·rw [if_pos h64] at he; simp at he
      ·rw [if_neg h64]; exact ⟨by omega, by omega, rfl⟩
  ·cases hn : nameB c
   ·cases hs : specialB c
    ·have e : nx (c :: r) = ⟨0, [], 0, 10⟩ := by simp only [nx]; rw [hb, if_neg (by simp), if_neg h37, hn, if_neg (by simp), hs, if_neg (by simp)]
     rw [e] at he; simp at he
    ·exact .inr (.inl ⟨rfl, by simp only [nx]; rw [hb, if_neg (by simp), if_neg h37, hn, if_neg (by simp), hs, if_pos rfl]⟩)
   ·have e : nx (c :: r) = nm ((c :: r).take (runLen nameB (c :: r))) := by simp only [nx]; rw [hb, if_neg (by simp), if_neg h37, hn, if_pos rfl]
    have hl : ((c :: r).take (runLen nameB (c :: r))).length = runLen nameB (c :: r) := by have := runLen_le nameB (c :: r); rw [List.length_take]; omega
    rw [e] at he ⊢
    refine .inl ⟨rfl, ?_⟩
    unfold nm at he ⊢
    rw [hl] at he ⊢
    by_cases h64 : 64 < runLen nameB (c :: r)
    ·rw [if_pos h64] at he; simp at he
    ·rw [if_neg h64]; exact ⟨by omega, rfl⟩
 ·have e : nx (c :: r) = ⟨0, [], 1, 0⟩ := by simp only [nx]; rw [hb, if_pos rfl]
  rw [e] at hk; simp at hk
theorem letter_name (c : UInt8) (h : letterB c = true) : nameB c = true := by
 have := of_decide_eq_true h
 exact decide_eq_true (by omega)
theorem special_not (c : UInt8) (h : specialB c = true) : letterB c = false := by
 have := of_decide_eq_true h
 exact decide_eq_false (by omega)
theorem nx_valid (c : UInt8) (r : List UInt8) (n : Nat) (he : (nx (c :: r)).err = 0) (hk : (nx (c :: r)).kind ≠ 0) :
  valid ⟨(nx (c :: r)).kind, (nx (c :: r)).text, n⟩ ∧ (c :: r).take (nx (c :: r)).len = spT ⟨(nx (c :: r)).kind, (nx (c :: r)).text, n⟩ ∧
  (∀ d q, (c :: r).drop (nx (c :: r)).len = d :: q → (letterB ((c :: r).getD ((nx (c :: r)).len - 1) 0) && letterB d) = false) := by
 rcases nx_tok c r he hk with ⟨hn, h64, e⟩ | ⟨hs, e⟩ | ⟨h37, h1, h64, e⟩
 ·rw [e]
  have hle := runLen_le nameB (c :: r)
  have hpos : 1 ≤ runLen nameB (c :: r) := by rw [runLen, if_pos hn]; omega
  have hl : ((c :: r).take (runLen nameB (c :: r))).length = runLen nameB (c :: r) := by rw [List.length_take]; omega
  refine ⟨.inl ⟨rfl, ?_, by rw [hl]; exact h64, runLen_take nameB (c :: r)⟩, ?_, ?_⟩
  ·intro h0
   have := congrArg List.length h0
   rw [hl] at this
   simp at this
   omega
  ·simp only [spT]
   rw [if_neg (by split <;> decide)]
  ·intro d q hd
   have := runLen_stop nameB (c :: r) d q hd
   have hl : letterB d = false := by
    cases hh : letterB d
    ·rfl
    ·rw [letter_name d hh] at this; cases this
   rw [hl, Bool.and_false]
 ·rw [e]
  refine ⟨.inr (.inl ⟨rfl, c, hs, rfl⟩), rfl, ?_⟩
  intro d q _
  have := special_not c hs
  simp [this]
 ·rw [e]
  have hle := runLen_le letterB r
  have hl : (r.take (runLen letterB r)).length = runLen letterB r := by rw [List.length_take]; omega
  refine ⟨.inr (.inr ⟨rfl, ?_, by rw [hl]; exact h64, runLen_take letterB r⟩), ?_, ?_⟩
  ·intro h0
   have := congrArg List.length h0
   rw [hl] at this
   simp at this
   omega
  ·simp only [spT, List.take_succ_cons]
   rw [if_pos trivial, show c = 37 from UInt8.toNat_inj.1 h37]
  ·intro d q hd
   rw [List.drop_succ_cons] at hd
   rw [runLen_stop letterB r d q hd, Bool.and_false]
theorem lexR_sc (l : List UInt8) : ∀ n acc, acc.length + brk false l ≤ 20000 → lexR n l acc = if (sc n l).2.1 = 0 then (acc ++ (sc n l).1, (sc n l).2) else ([], (sc n l).2) := by
 induction l using item_induct with
 | h0 => intro n acc _; rw [lexR_nil, sc_nil]; simp
 | h1 c r he => intro n acc _; rw [lexR_cons, if_pos he, sc_err _ _ _ he]; simp [he]
 | h2 c r he ih =>
  intro n acc hacc
  have hl := nx_len c r he
  obtain ⟨m, hm⟩ : ∃ m, (nx (c :: r)).len = m + 1 := ⟨(nx (c :: r)).len - 1, by omega⟩
  have hb := brk_drop m c r false (by omega)
  have hd : (c :: r).drop (nx (c :: r)).len = r.drop m := by rw [hm, List.drop_succ_cons]
  have h1 := (brk_le (letterB ((c :: r).getD m 0)) (r.drop m)).2
  simp only [Bool.false_and, Bool.false_eq_true, if_false] at hb
  rw [lexR_cons, if_neg (by simpa using he), sc_ok _ _ _ he, put_snd]
  by_cases hk : (nx (c :: r)).kind = 0
  ·rw [if_pos hk, ih _ acc (by rw [hd]; omega)]
   have : ∀ y, put (nx (c :: r)) n y = y := fun y => by unfold put; rw [if_pos hk]
   rw [this]
  ·have hmax := (nx_valid c r n he hk).2.2
   have h2 : brk false (r.drop m) ≤ brk (letterB ((c :: r).getD m 0)) (r.drop m) := by
    rw [hm, List.drop_succ_cons] at hmax
    cases hq : r.drop m with
    | nil => simp [brk]
    | cons d q =>
     have := hmax d q hq
     simp only [Nat.add_sub_cancel] at this
     simp only [brk, this]
     simp
   rw [if_neg hk, if_neg (by omega), ih _ _ (by rw [hd, List.length_append]; simp; omega)]
   split
   ·rename_i h0
    rw [put_fst _ _ _ h0, if_neg hk]
    simp
   ·rfl
end Lfc
namespace Lfc
theorem lex_sc (l : List UInt8) (h : l.length ≤ 65536) (hb : brk false l ≤ 20000) : lex l = if (sc 0 l).2.1 = 0 then ((sc 0 l).1, (sc 0 l).2) else ([], (sc 0 l).2) := by
 rw [lex_eq, if_neg (by omega), lexR_sc l 0 [] (by simpa using hb)]
 simp
theorem lex_sc' (l : List UInt8) (h : l.length ≤ 65536) (hb : brk false l ≤ 20000) : lex l = sc 0 l := by
 rw [lex_sc l h hb]
 split
 ·rfl
 ·rename_i h0; exact Prod.ext (sc_none l 0 h0).symm rfl
theorem name_not (c : UInt8) (h : nameB c = true) : blankB c = false ∧ ¬ c.toNat = 37 := by
 have := of_decide_eq_true h
 exact ⟨decide_eq_false (by omega), by omega⟩
theorem special_not' (c : UInt8) (h : specialB c = true) : blankB c = false ∧ ¬ c.toNat = 37 ∧ nameB c = false := by
 have := of_decide_eq_true h
 exact ⟨decide_eq_false (by omega), by omega, decide_eq_false (by omega)⟩
theorem sc_blank (n : Nat) (c : UInt8) (r : List UInt8) (h : blankB c = true) : sc n (c :: r) = sc (n + 1) r := by
 have e : nx (c :: r) = ⟨0, [], 1, 0⟩ := by simp only [nx]; rw [h, if_pos rfl]
 rw [sc_ok _ _ _ (by rw [e]), e]
 simp [put]
end Lfc
namespace Lfc
theorem lexF_ok : ∀ (f n : Nat) (l : List UInt8) (acc : List Tok), acc.length ≤ 20000 → (∀ t ∈ acc, valid t) → (lexF f n l acc).2.1 = 0 → (lexF f n l acc).1.length ≤ 20000 ∧ ∀ t ∈ (lexF f n l acc).1, valid t
 | 0, n, l, acc, h1, h2, _ => ⟨h1, h2⟩
 | f + 1, n, [], acc, h1, h2, _ => ⟨h1, h2⟩
 | f + 1, n, c :: r, acc, h1, h2, h3 => by
  rw [lexF] at h3 ⊢
  split at h3
  ·rename_i he; exact absurd h3 he
  rename_i he
  rw [if_neg he]
  split at h3
  ·rename_i hk
   rw [if_pos hk]
   exact lexF_ok f _ _ acc h1 h2 h3
  rename_i hk
  rw [if_neg hk]
  split at h3
  ·simp at h3
  rename_i ha
  rw [if_neg ha]
  refine lexF_ok f _ _ _ (by rw [List.length_append]; simp; omega) (fun t ht => ?_) h3
  rcases List.mem_append.1 ht with ht | ht
  ·exact h2 t ht
  ·simp at ht
   subst ht
   exact (nx_valid c r n (Decidable.byContradiction he) hk).1
theorem lex_good {l : List UInt8} (h : (lex l).2.1 = 0) : l.length ≤ 65536 ∧ (lex l).1.length ≤ 20000 ∧ ∀ t ∈ (lex l).1, valid t := by
 unfold lex at h ⊢
 split at h
 ·simp at h
 ·rename_i hl
  rw [if_neg hl]
  exact ⟨by omega, lexF_ok _ _ _ _ (by simp) (by simp) h⟩
theorem valid_le {t : Tok} (h : valid t) : t.text.length ≤ 64 ∧ t.text ≠ [] := by
 rcases h with ⟨_, h1, h2, _⟩ | ⟨_, c, _, h⟩ | ⟨_, h1, h2, _⟩
 ·exact ⟨h2, h1⟩
 ·rw [h]; simp
 ·exact ⟨h2, h1⟩
end Lfc
namespace Lfc
def NzE {α : Type} (r : PR α) : Prop := ∀ c a, r = .err c a → c ≠ 0
theorem NzE.ok {α : Type} (x : α) (k : Nat) : NzE (.ok x k : PR α) := fun _ _ h => by cases h
theorem NzE.then {α β : Type} {r : PR α} {f : α → Nat → PR β} (h : NzE r) (hf : ∀ x k, NzE (f x k)) : NzE (r.then f) := by
 cases r with
 | out => intro c a e; cases e
 | err c' a' => intro c a e; cases e; exact h _ _ rfl
 | ok x k => exact hf x k
theorem nz_unexp {α : Type} (p : PE) (k : Nat) : NzE (p.unexp k : PR α) := by
 intro c a h
 unfold PE.unexp at h
 split at h <;> cases h <;> decide
theorem nz_opdsG {g : Nat → PR (Option Opd)} (hg : ∀ k, NzE (g k)) : ∀ (m k : Nat) (acc : List Opd), NzE (opdsG g m k acc)
 | 0, _, _ => fun _ _ h => by cases h
 | m + 1, k, acc => by
  intro c a h
  unfold opdsG at h
  cases hr : g k with
  | out => rw [hr] at h; cases h
  | err e b => rw [hr] at h; cases h; exact hg k _ _ hr
  | ok o k' =>
   rw [hr] at h
   cases o with
   | none => cases h
   | some x => exact nz_opdsG hg m k' _ c a h
theorem nz_exprG {p : PE} {g : Nat → PR (Option Opd)} (hg : ∀ k, NzE (g k)) (k : Nat) : NzE (p.exprG g k) := by
 unfold PE.exprG
 refine NzE.then (nz_opdsG hg _ _ _) (fun s k' => ?_)
 split
 ·exact nz_unexp _ _
 ·split
  ·rename_i h
   intro c a e
   cases e
   exact h
  ·exact NzE.ok _ _
theorem nz_punct (p : PE) (k : Nat) (s : List UInt8) : NzE (p.punct k s) := by
 unfold PE.punct
 split
 ·exact NzE.ok _ _
 ·exact nz_unexp _ _
theorem nz_name (p : PE) (k : Nat) : NzE (p.name k) := by
 unfold PE.name
 split
 ·exact NzE.ok _ _
 ·exact nz_unexp _ _
theorem nz_parG {p : PE} {g : Nat → PR (Option Opd)} (hg : ∀ k, NzE (g k)) (k : Nat) : NzE (p.parG g k) := by
 unfold PE.parG
 refine NzE.then (nz_exprG hg _) (fun t k1 => NzE.then ?_ (fun u k2 => NzE.then (nz_punct p _ _) (fun _ _ => NzE.ok _ _)))
 split
 ·exact NzE.then (nz_exprG hg _) (fun _ _ => NzE.ok _ _)
 ·exact NzE.ok _ _
theorem nz_bindG {p : PE} {g : Nat → PR (Option Opd)} (hg : ∀ k, NzE (g k)) (kd : Int) (e : List UInt8) (k : Nat) : NzE (p.bindG g kd e k) := by
 unfold PE.bindG
 have hb : NzE (p.bindN (k + 1)) := by
  unfold PE.bindN
  split
  ·exact NzE.ok _ _
  ·exact nz_name _ _
 refine NzE.then hb (fun n k1 => NzE.then ?_ (fun l k2 => NzE.then (nz_punct p _ _) (fun _ k3 => NzE.then (nz_exprG hg _) (fun _ _ => NzE.ok _ _))))
 split
 ·exact NzE.then (nz_exprG hg _) (fun _ _ => NzE.ok _ _)
 ·exact NzE.ok _ _
theorem nz_opdF (p : PE) : ∀ f k, NzE (p.opdF f k)
 | 0, _ => fun _ _ h => by cases h
 | f + 1, k => by
  rw [PE.opdF]
  unfold PE.opdG
  have hg := nz_opdF p f
  repeat' split
  all_goals first | exact NzE.ok _ _ | exact NzE.then (nz_parG hg _) (fun _ _ => NzE.ok _ _) | exact NzE.then (nz_bindG hg _ _ _) (fun _ _ => NzE.ok _ _)
theorem nz_expr (p : PE) (k : Nat) : NzE (p.expr k) := nz_exprG (nz_opdF p _) k
end Lfc
namespace Lfc
def digN (n : Int) : List UInt8 → Int
 | [] => n
 | c :: r => if c.toNat < 48 ∨ 57 < c.toNat then -1 else digN (10 * n + ((c.toNat : Int) - 48)) r
def digitsP (s : List UInt8) : Int := if s = [] ∨ 4 < s.length ∨ ((s.headD 0).toNat = 48 ∧ 1 < s.length) then -1 else digN 0 s
def PE.number (p : PE) (k : Nat) (least most : Int) : PR Int := if (p.pk k).kind ≠ 1 ∨ digitsP (p.pk k).text < least ∨ most < digitsP (p.pk k).text then p.unexp k else .ok (digitsP (p.pk k).text) (k + 1)
def idxW (s : List UInt8) : List (List UInt8) → Int
 | [] => -1
 | a :: r => if a = s then 0 else if idxW s r < 0 then -1 else idxW s r + 1
def PE.word (p : PE) (k : Nat) (ws : List (List UInt8)) : PR Int := if idxW (p.pk k).text ws < 0 ∨ (p.pk k).kind ≠ 1 then p.unexp k else .ok (idxW (p.pk k).text ws) (k + 1)
abbrev Bnd := List UInt8 × Raw
structure Itm where
 kind : Int
 pos : Nat
 name : List UInt8
 type : List Raw
 value : List Raw
 op : Op
 som : List Bnd
 params : List Bnd
 blocks : List (List UInt8)
 fams : List (List UInt8)
 signs : List Int
 orders : List (List UInt8 × Ord)
 left : Ord
 right : Ord
 rel : Int
 count : Int
def Ord.nil : Ord := .node 0 0 []
def Itm.new (a : Nat) : Itm := ⟨0, a, [], [], [], ⟨[], 0, 0⟩, [], [], [], [], [], [], Ord.nil, Ord.nil, 0, 0⟩
abbrev ItR := PR (Itm × List Op)
def PE.declP (p : PE) (it : Itm) (k : Nat) : ItR :=
 (p.name k).then fun n k1 =>
  if p.is k1 2 [58] then (p.expr (k1 + 1)).then fun t k2 =>
   if p.is k2 2 [61] then (p.punct k2 [61]).then fun _ k3 => (p.expr k3).then fun v k4 => (p.punct k4 [46]).then fun _ k5 => .ok ({ it with kind := 2, name := n, type := [t], value := [v] }, p.ops) k5
   else (p.punct k2 [46]).then fun _ k3 => .ok ({ it with kind := 1, name := n, type := [t] }, p.ops) k3
  else (p.punct k1 [61]).then fun _ k3 => (p.expr k3).then fun v k4 => (p.punct k4 [46]).then fun _ k5 => .ok ({ it with kind := 2, name := n, value := [v] }, p.ops) k5
def PE.opP (p : PE) (it : Itm) (fix : Int) (k : Nat) : ItR :=
 (p.number k 0 99).then fun c k1 => (p.name k1).then fun n k2 => (p.punct k2 [46]).then fun _ k3 =>
  if (added p.ops ⟨n, fix, c⟩).2 ≠ 0 then .err (added p.ops ⟨n, fix, c⟩).2 (p.pk k1).pos else .ok ({ it with kind := 3, op := ⟨n, fix, c⟩ }, (added p.ops ⟨n, fix, c⟩).1) k3
def fixes : List (List UInt8) := [[110, 111, 110, 101], [108, 101, 102, 116], [114, 105, 103, 104, 116]]
def PE.infixP (p : PE) (it : Itm) (k : Nat) : ItR := (p.word k fixes).then fun i k1 => p.opP it (3 + i) k1
def PE.namedP (p : PE) (kind : Int) (it : Itm) (k : Nat) : ItR := (p.name k).then fun n k1 => (p.punct k1 [46]).then fun _ k2 => .ok ({ it with kind := kind, name := n }, p.ops) k2
def PE.queryP (p : PE) (it : Itm) (k : Nat) : ItR := (p.number k 0 1000).then fun c k1 => (p.expr k1).then fun t k2 => (p.punct k2 [46]).then fun _ k3 => .ok ({ it with kind := 13, count := c, type := [t] }, p.ops) k3
def bindersF (p : PE) : Nat → Nat → List Bnd → PR (List Bnd)
 | 0, _, _ => .out
 | f + 1, k, acc => (p.punct k [123]).then fun _ k1 => (p.name k1).then fun n k2 => (p.punct k2 [58]).then fun _ k3 => (p.expr k3).then fun t k4 => (p.punct k4 [125]).then fun _ k5 =>
  if p.is k5 2 [123] then bindersF p f k5 (acc ++ [(n, t)]) else .ok (acc ++ [(n, t)]) k5
def PE.binders (p : PE) (k : Nat) : PR (List Bnd) := bindersF p (p.toks.length + 1) k []
def PE.blockP (p : PE) (it : Itm) (k : Nat) : ItR :=
 (p.name k).then fun n k1 => (p.punct k1 [58]).then fun _ k2 =>
  (if p.is k2 1 [115, 111, 109, 101] then p.binders (k2 + 1) else .ok [] k2).then fun s k3 => (p.word k3 [[98, 108, 111, 99, 107]]).then fun _ k4 => (p.binders k4).then fun q k5 => (p.punct k5 [46]).then fun _ k6 =>
   .ok ({ it with kind := 4, name := n, som := s, params := q }, p.ops) k6
def barsF (p : PE) : Nat → Nat → List (List UInt8) → PR (List (List UInt8))
 | 0, _, _ => .out
 | f + 1, k, acc => if p.is k 1 [124] then (p.name (k + 1)).then fun n k1 => barsF p f k1 (acc ++ [n]) else .ok acc k
def namesF (p : PE) : Nat → Nat → List (List UInt8) → PR (List (List UInt8))
 | 0, _, _ => .out
 | f + 1, k, acc => if p.isNm k then (p.name k).then fun n k1 => namesF p f k1 (acc ++ [n]) else .ok acc k
def PE.worldsP (p : PE) (it : Itm) (k : Nat) : ItR :=
 (p.punct k [40]).then fun _ k1 =>
  (if p.isNm k1 then (p.name k1).then fun n k2 => barsF p (p.toks.length + 1) k2 [n] else .ok [] k1).then fun bs k2 => (p.punct k2 [41]).then fun _ k3 => (p.name k3).then fun n k4 =>
   (namesF p (p.toks.length + 1) k4 [n]).then fun fs k5 => (p.punct k5 [46]).then fun _ k6 => .ok ({ it with kind := 5, blocks := bs, fams := fs }, p.ops) k6
def signs : List (List UInt8) := [[43], [45], [42]]
def signsF (p : PE) : Nat → Nat → List Int → PR (List Int)
 | 0, _, _ => .out
 | f + 1, k, acc => if p.is k 2 [46] then .ok acc (k + 1) else (p.word k signs).then fun i k1 => signsF p f k1 (acc ++ [1 + i])
def PE.modeP (p : PE) (it : Itm) (k : Nat) : ItR := (p.name k).then fun n k1 => (signsF p (p.toks.length + 1) k1 []).then fun l k2 => .ok ({ it with kind := 6, name := n, signs := l }, p.ops) k2
def partsF (p : PE) (g : Nat → PR Ord) (end_ : List UInt8) : Nat → Nat → List Ord → PR (List Ord)
 | 0, _, _ => .out
 | f + 1, k, acc => if acc ≠ [] ∧ p.is k 2 end_ then .ok acc k else (g k).then fun x k1 => partsF p g end_ f k1 (acc ++ [x])
def PE.orderF (p : PE) : Nat → Nat → Nat → PR Ord
 | 0, _, _ => .out
 | f + 1, o, k =>
  if p.is k 2 [91] then (if o + 1 = 128 then .err 2 (p.pk k).pos else (partsF p (p.orderF f (o + 1)) [93] (p.toks.length + 1) (k + 1) []).then fun l k1 => .ok (.node 3 0 l) (k1 + 1))
  else if p.is k 2 [123] then (if o + 1 = 128 then .err 2 (p.pk k).pos else (partsF p (p.orderF f (o + 1)) [125] (p.toks.length + 1) (k + 1) []).then fun l k1 => .ok (.node 2 0 l) (k1 + 1))
  else (p.number k 1 64).then fun n k1 => .ok (.node 1 n []) k1
def PE.order (p : PE) (k : Nat) : PR Ord := p.orderF 128 0 k
def ordersF (p : PE) : Nat → Nat → List (List UInt8 × Ord) → PR (List (List UInt8 × Ord))
 | 0, _, _ => .out
 | f + 1, k, acc => if acc = [] ∨ p.isNm k then (p.name k).then fun n k1 => (p.order k1).then fun o k2 => ordersF p f k2 (acc ++ [(n, o)]) else .ok acc k
def PE.ordersP (p : PE) (kind : Int) (it : Itm) (k : Nat) : ItR := (ordersF p (p.toks.length + 1) k []).then fun l k1 => (p.punct k1 [46]).then fun _ k2 => .ok ({ it with kind := kind, orders := l }, p.ops) k2
def rels : List (List UInt8) := [[60], [60, 61]]
def PE.reducesP (p : PE) (it : Itm) (k : Nat) : ItR :=
 (p.name k).then fun n k1 => (p.order k1).then fun a k2 =>
  (if p.is k2 2 [61] then (.ok 3 (k2 + 1) : PR Int) else (p.word k2 rels).then fun i k3 => .ok (1 + i) k3).then fun r k3 => (p.order k3).then fun b k4 => (p.punct k4 [46]).then fun _ k5 =>
   .ok ({ it with kind := 12, name := n, left := a, rel := r, right := b }, p.ops) k5
def dirs : List (List UInt8) := [[105, 110, 102, 105, 120], [112, 114, 101, 102, 105, 120], [112, 111, 115, 116, 102, 105, 120], [98, 108, 111, 99, 107], [119, 111, 114, 108, 100, 115], [109, 111, 100, 101], [99, 111, 118, 101, 114, 115], [117, 110, 105, 113, 117, 101], [115, 116, 114, 105, 99, 116], [116, 101, 114, 109, 105, 110, 97, 116, 101, 115], [116, 111, 116, 97, 108], [114, 101, 100, 117, 99, 101, 115], [113, 117, 101, 114, 121]]
def PE.dirP (p : PE) : Int → Itm → Nat → ItR
 | 0 => p.infixP
 | 1 => fun it => p.opP it 1
 | 2 => fun it => p.opP it 2
 | 3 => p.blockP
 | 4 => p.worldsP
 | 5 => p.modeP
 | 6 => p.namedP 7
 | 7 => p.namedP 8
 | 8 => p.namedP 9
 | 9 => p.ordersP 10
 | 10 => p.ordersP 11
 | 11 => p.reducesP
 | _ => p.queryP
def PE.itemP (p : PE) (before : Nat) (k : Nat) : ItR :=
 if before = 512 then .err 7 (p.pk k).pos
 else if (p.pk k).kind = 3 then (if idxW (p.pk k).text dirs < 0 then .err 23 (p.pk k).pos else p.dirP (idxW (p.pk k).text dirs) (Itm.new (p.pk k).pos) (k + 1))
 else if p.isNm k then p.declP (Itm.new (p.pk k).pos) k
 else p.unexp k
def itemsF (toks : List Tok) (fin : Nat) : Nat → Nat → List Op → List Itm → PR (List Itm × List Op)
 | 0, _, _, _ => .out
 | f + 1, k, l, acc => if k < toks.length then (PE.itemP ⟨toks, fin, l⟩ acc.length k).then fun x k1 => itemsF toks fin f k1 x.2 (acc ++ [x.1]) else .ok (acc, l) k
def itemsP (toks : List Tok) (fin : Nat) (l : List Op) : PR (List Itm × List Op) := itemsF toks fin (toks.length + 1) 0 l []
def extendP (l : List Op) (s : List UInt8) : PR (List Itm × List Op) := if (lex s).2.1 ≠ 0 then .err (lex s).2.1 (lex s).2.2 else itemsP (lex s).1 s.length l
end Lfc
