/- The contract of the walk of stands. -/
import Derived.Test.YtadjpadieljjlaaGreatOrKd
import Derived.Test.YtadjpadieljjlaaGreatOrPar
import Derived.StillTailTactics
import Derived.Deep.DeepCutAuto
import Derived.Deep.CutBlock
set_option linter.unusedVariables false
set_option linter.unusedSimpArgs false
namespace Go.Proofs.YtadjpadieljjlaaGreat
open Go.RowKit
theorem enters_st : ∀ args w, (callFunc 72 args).run Tryz.prog w = .ok (.enter 72 args) w := enters_of Tryz.func72 (by kernel_rfl) rfl
/-- The numbers as cells. -/
def ints (tv : List Int) : List Value := tv.map fun z => .int .i64 z
/-- What the walk of stands keeps: its boxed variables, the list in block G. -/
structure StS (w0 : World) (ks : List Int) (A0 : Option Addr) (c0 cr B1 B2 B3 B4 G : Nat) (W : World) (tv : List Int) : Prop where
  below : Below w0.heap.size w0 W
  b1 : W.heap[B1]? = some (.cells #[.int .i64 (cr : Int)] 3 (0, 0))
  b2 : W.heap[B2]? = some (.cells #[.slice A0 ks.length c0] 22 (0, 0))
  b3 : W.heap[B3]? = some (.cells #[.slice (some ⟨G, 0, none⟩) cr cr] 22 (0, 0))
  b4 : W.heap[B4]? = some (.cells #[.func (.func 72) #[] #[.pointer (some ⟨B1, 0, none⟩), .pointer (some ⟨B2, 0, none⟩), .pointer (some ⟨B3, 0, none⟩), .pointer (some ⟨B4, 0, none⟩)]] 129 (0, 0))
  g : W.heap[G]? = some (.cells (ints tv).toArray 3 (0, 0))
  len : tv.length = cr
  n : w0.heap.size ≤ G ∧ B1 ≠ G ∧ B2 ≠ G ∧ B3 ≠ G ∧ B4 ≠ G
theorem StS.wide {w0 : World} {ks : List Int} {A0 : Option Addr} {c0 cr B1 B2 B3 B4 G : Nat} {W W' : World} {tv : List Int} (h : StS w0 ks A0 c0 cr B1 B2 B3 B4 G W tv) (hb : Below W.heap.size W W') : StS w0 ks A0 c0 cr B1 B2 B3 B4 G W' tv :=
  ⟨h.below.trans (hb.mono h.below.size), (hb.block _ (lt_of_block h.b1)).trans h.b1, (hb.block _ (lt_of_block h.b2)).trans h.b2, (hb.block _ (lt_of_block h.b3)).trans h.b3, (hb.block _ (lt_of_block h.b4)).trans h.b4, (hb.block _ (lt_of_block h.g)).trans h.g, h.len, h.n⟩
theorem StS.set {w0 : World} {ks : List Int} {A0 : Option Addr} {c0 cr B1 B2 B3 B4 G : Nat} {W : World} {tv : List Int} (h : StS w0 ks A0 c0 cr B1 B2 B3 B4 G W tv) (q : Nat) (z : Int) : StS w0 ks A0 c0 cr B1 B2 B3 B4 G (W.setCell ⟨G, q, none⟩ (.int .i64 z)) (tv.set q z) := by
  have ho : Oth G W (W.setCell ⟨G, q, none⟩ (.int .i64 z)) := Oth.set _ _
  obtain ⟨n0, n1, n2, n3, n4⟩ := h.n
  refine ⟨Oth.below h.below ho n0 h.below.size, ho.heap h.b1 n1, ho.heap h.b2 n2, ho.heap h.b3 n3, ho.heap h.b4 n4, ?_, by rw [List.length_set]; exact h.len, h.n⟩
  simp [World.setCell, Array.getElem?_modify, h.g, ints, List.map_set]
theorem StS.cell {w0 : World} {ks : List Int} {A0 : Option Addr} {c0 cr B1 B2 B3 B4 G : Nat} {W : World} {tv : List Int} (h : StS w0 ks A0 c0 cr B1 B2 B3 B4 G W tv) {q : Nat} (hq : q < cr) : W.cell? ⟨G, q, none⟩ = some (.int .i64 (tv.getD q 0)) ∧ W.frozen? ⟨G, q, none⟩ = false := by
  refine ⟨?_, Lib.frozen_of_heap h.g q⟩
  rw [Lib.cell_of_heap h.g q]
  have := h.len
  simp [ints, List.getD_eq_getElem?_getD, List.getElem?_eq_getElem (show q < tv.length by omega)]
/-- What the walk answers. -/
def StAns (w0 : World) (ks : List Int) (A0 : Option Addr) (c0 cr B1 B2 B3 B4 G : Nat) (W : World) (r : Option (List Int)) (e : Ending) (w' : World) : Prop :=
  ((r = none ∧ e = .returned (.bool false)) ∨ (∃ tv', r = some tv' ∧ e = .returned (.bool true) ∧ StS w0 ks A0 c0 cr B1 B2 B3 B4 G w' tv')) ∧ Oth G W w'
theorem StAns.no {w0 : World} {ks : List Int} {A0 : Option Addr} {c0 cr B1 B2 B3 B4 G : Nat} {W : World} {r : Option (List Int)} {w' : World} (h : r = none) (ho : Oth G W w') : StAns w0 ks A0 c0 cr B1 B2 B3 B4 G W r (.returned (.bool false)) w' := ⟨.inl ⟨h, rfl⟩, ho⟩
theorem st_node (ks : List Int) (cr : Nat) (k k' p p' d : Int) (n n' : List UInt8) (xs ys : List Lfc.Raw) (tv : List Int) :
    (Lfc.Raw.node k n p xs).st ks cr (.node k' n' p' ys) d tv = if k ≠ k' ∨ xs.length ≠ ys.length then none else match Lfc.stStep ks cr k n n' p p' d tv with | none => none | some tv' => Lfc.Raw.sts ks cr xs ys (if k = 3 then d + 1 else d) tv' := by rw [Lfc.Raw.st]; rfl
theorem st_some {ks : List Int} {cr : Nat} {k p p' d d2 : Int} {n n' : List UInt8} {xs ys : List Lfc.Raw} {tv tv2 : List Int} (hl : xs.length = ys.length) (h : Lfc.stStep ks cr k n n' p p' d tv = some tv2) (hd : d2 = if k = 3 then d + 1 else d) :
    (Lfc.Raw.node k n p xs).st ks cr (.node k n' p' ys) d tv = Lfc.Raw.sts ks cr xs ys d2 tv2 := by
  rw [st_node, if_neg (by rintro (h | h); exact h rfl; exact h hl), h, hd]
theorem st_none {ks : List Int} {cr : Nat} {k p p' d : Int} {n n' : List UInt8} {xs ys : List Lfc.Raw} {tv : List Int} (hl : xs.length = ys.length) (h : Lfc.stStep ks cr k n n' p p' d tv = none) :
    (Lfc.Raw.node k n p xs).st ks cr (.node k n' p' ys) d tv = none := by
  rw [st_node, if_neg (by rintro (h | h); exact h rfl; exact h hl), h]
theorem sts_drop {ks : List Int} {cr : Nat} {d : Int} {tv : List Int} {xs ys : List Lfc.Raw} {j : Nat} (h : j < xs.length) (h' : j < ys.length) :
    Lfc.Raw.sts ks cr (xs.drop j) (ys.drop j) d tv = match Lfc.Raw.st ks cr xs[j] ys[j] d tv with | none => none | some tv' => Lfc.Raw.sts ks cr (xs.drop (j + 1)) (ys.drop (j + 1)) d tv' := by
  rw [List.drop_eq_getElem_cons h, List.drop_eq_getElem_cons h', Lfc.Raw.sts]; rfl

set_option maxRecDepth 100000 in
set_option maxHeartbeats 8000000 in
theorem stWalk_upto (w0 : World) (ks : List Int) (A0 : Option Addr) (c0 cr B1 B2 B3 B4 G : Nat) (hcr : cr ≤ 1000000) (hks : ks.length ≤ 1000000) (hA0 : IntsO w0 A0 ks) (m : Nat) (hm : m ≤ 1000000) :
    ∀ (s t : Lfc.Raw) (vs vt : Value) (d : Int) (tv : List Int) (W : World), s.size ≤ m → 0 ≤ d → d + s.size ≤ 2000000 → s.obj = true → t.obj = true → TreeV w0 s vs → TreeV w0 t vt → StS w0 ks A0 c0 cr B1 B2 B3 B4 G W tv →
    Calls Tryz.prog 72 #[vs, vt, .int .i64 d, .pointer (some ⟨B1, 0, none⟩), .pointer (some ⟨B2, 0, none⟩), .pointer (some ⟨B3, 0, none⟩), .pointer (some ⟨B4, 0, none⟩)] W
      (StAns w0 ks A0 c0 cr B1 B2 B3 B4 G W (s.st ks cr t d tv)) := by
  induction m with
  | zero => intro s t vs vt d tv W h; have := s.size_pos; omega
  | succ m ih =>
    intro s t vs vt d tv W hsz hd0 hds hso hto hv hv' hS
    have he := enters_st
    obtain ⟨kd, nm, ps, xs⟩ := s
    obtain ⟨kd', nm', ps', ys⟩ := t
    obtain ⟨A, c, rfl, hc, hA⟩ := hv.open_
    obtain ⟨A', c', rfl, hc', hA'⟩ := hv'.open_
    simp only [Lfc.Raw.size] at hsz hds
    have hlen := Lfc.Raw.sizes_len xs
    obtain ⟨Wa, hWa⟩ : ∃ Wa, W.alloc (.cells #[.int .i64 kd, S nm, .int .i64 ps, .slice A xs.length c] 51) = Wa := ⟨_, rfl⟩
    obtain ⟨Wb, hWb⟩ : ∃ Wb, Wa.alloc (.cells #[.int .i64 kd', S nm', .int .i64 ps', .slice A' ys.length c'] 51) = Wb := ⟨_, rfl⟩
    have ba : Below W.heap.size W Wa := by rw [← hWa]; exact (Below.refl _ _).alloc (Nat.le_refl _) _
    have bb : Below Wa.heap.size Wa Wb := by rw [← hWb]; exact (Below.refl _ _).alloc (Nat.le_refl _) _
    have qa : Wa.heap[W.heap.size]? = some (.cells #[.int .i64 kd, S nm, .int .i64 ps, .slice A xs.length c] 51 (0, 0)) := by rw [← hWa]; exact heap_alloc_new _ _
    have qb : Wb.heap[Wa.heap.size]? = some (.cells #[.int .i64 kd', S nm', .int .i64 ps', .slice A' ys.length c'] 51 (0, 0)) := by rw [← hWb]; exact heap_alloc_new _ _
    have la := lt_of_block qa
    have lb := lt_of_block qb
    have lg := lt_of_block hS.g
    have bW : Below W.heap.size W Wb := ba.trans (bb.mono (by omega))
    have QA := Lib.hid ((bb.block _ la).trans qa)
    have QB := Lib.hid qb
    have SB := Lib.hid (hS.wide bW)
    have OW : Hid (Oth G W Wb) := Lib.hid (Oth.of_below bW)
    have IH := Lib.hid (ih (by omega))
    have HA := Lib.hid hA
    have HA' := Lib.hid hA'
    have HB0 := Lib.hid hA0
    obtain ⟨y0, y1, y2, y3⟩ := cells4t QA.out
    obtain ⟨z0, z1, z2, z3⟩ := cells4t QB.out
    have c1 := Lib.cell_of_heap SB.out.b1 0
    have c2 := Lib.cell_of_heap SB.out.b2 0
    have c3 := Lib.cell_of_heap SB.out.b3 0
    simp at c1 c2 c3
    have hob : (kd = 3 ∨ kd = 4 ∨ kd = 5 ∨ kd = 6) ∧ (kd = 5 ∨ kd = 6 → 0 ≤ ps ∧ ps ≤ 1048576) ∧ Lfc.Raw.objs xs = true := by
      rw [Lfc.Raw.obj] at hso
      split at hso
      · simp at hso; exact ⟨by omega, by omega, hso.2⟩
      · split at hso
        · simp at hso; exact ⟨by omega, by omega, hso.2⟩
        · split at hso
          · simp at hso; exact ⟨by omega, by omega, hso.2⟩
          · split at hso
            · simp at hso; exact ⟨by omega, by omega, hso.2⟩
            · cases hso
    have hob' : (kd' = 5 ∨ kd' = 6 → 0 ≤ ps' ∧ ps' ≤ 1048576) ∧ Lfc.Raw.objs ys = true := by
      rw [Lfc.Raw.obj] at hto
      split at hto
      · simp at hto; exact ⟨by omega, hto.2⟩
      · split at hto
        · simp at hto; exact ⟨by omega, hto.2⟩
        · split at hto
          · simp at hto; exact ⟨by omega, hto.2⟩
          · split at hto
            · simp at hto; exact ⟨by omega, hto.2⟩
            · cases hto
    obtain ⟨hk4, hps, hox⟩ := hob
    obtain ⟨hps', hoy⟩ := hob'
    have HOX := Lib.hid ((Lfc.objs_spec xs).1 hox)
    have HOY := Lib.hid ((Lfc.objs_spec ys).1 hoy)
    clear ih hv hv' hA hA' ba bb qa qb bW hS hso hto hox hoy hA0
    by_cases hk : kd = kd'
    · subst hk
      have hk2 : (kd != kd) = false := by simp
      by_cases hl : xs.length = ys.length
      · have hl2 : ((xs.length : Int) != (ys.length : Int)) = false := by simp; omega
        have HL := Lib.hid hl
        clear hl
        have HNO : Hid (Lfc.stStep ks cr kd nm nm' ps ps' d tv = none → ∀ w', Oth G W w' → StAns w0 ks A0 c0 cr B1 B2 B3 B4 G W ((Lfc.Raw.node kd nm ps xs).st ks cr (.node kd nm' ps' ys) d tv) (.returned (.bool false)) w') := Lib.hid (fun h w' ho => StAns.no (st_none HL.out h) ho)
        have HYES : Hid (∀ d2 tv2, Lfc.stStep ks cr kd nm nm' ps ps' d tv = some tv2 → d2 = (if kd = 3 then d + 1 else d) → (Lfc.Raw.node kd nm ps xs).st ks cr (.node kd nm' ps' ys) d tv = Lfc.Raw.sts ks cr xs ys d2 tv2) := Lib.hid (fun d2 tv2 h hd => st_some HL.out h hd)
        go_enter Tryz.func72, Tryz.ntmps72
        go_upto_block 0 with fail
        go_cut [2] (fun s2 wx => ∃ (d2 : Int) (tv2 : List Int), s2 = .int .i64 d2 ∧ d ≤ d2 ∧ d2 ≤ d + 1 ∧ Hid (d2 = if kd = 3 then d + 1 else d) ∧ Hid (Lfc.stStep ks cr kd nm nm' ps ps' d tv = some tv2) ∧ Hid (StS w0 ks A0 c0 cr B1 B2 B3 B4 G wx tv2) ∧ Hid (Oth G Wb wx))
        case first =>
          rcases hk4 with rfl | rfl | rfl | rfl
          · have HST : Hid (Lfc.stStep ks cr 3 nm nm' ps ps' d tv = some tv) := Lib.hid (by simp [Lfc.stStep])
            have hwd : IntKind.i64.wrap (d + 1) = d + 1 := IntWalk.i64_in _ (by omega)
            clear HNO HYES
            go_wp2_with fail
            go_meet
            exact ⟨d + 1, tv, rfl, by omega, by omega, Lib.hid (by simp), HST, SB, Lib.hid (Oth.refl _ _)⟩
          · by_cases hn : nm = nm'
            · have HST : Hid (Lfc.stStep ks cr 4 nm nm' ps ps' d tv = some tv) := Lib.hid (by simp [Lfc.stStep, hn])
              have hn1 : (nm == nm') = true := by simp [hn]
              have hn2 : (nm != nm') = false := by simp [hn]
              clear HNO HYES hn
              go_wp2_with fail
              go_meet
              exact ⟨d, tv, rfl, by omega, by omega, Lib.hid (by simp), HST, SB, Lib.hid (Oth.refl _ _)⟩
            · have HN := Lib.hid (HNO.out (by simp [Lfc.stStep, hn]))
              have hn1 : (nm == nm') = false := by simp [hn]
              have hn2 : (nm != nm') = true := by simp [hn]
              clear HNO HYES hn
              go_wp2_with fail
              go_ret
              exact HN.out _ OW.out
          · have hps1 := hps (.inl rfl)
            have hps1' := hps' (.inl rfl)
            clear hps hps'
            by_cases hneg : ps - d < 0
            · have hwq : IntKind.i64.wrap (ps - d) = ps - d := IntWalk.i64_in _ (by omega)
              have hd1 : decide (ps - d < 0) = true := by rw [decide_eq_true_eq]; exact hneg
              by_cases hp : ps = ps'
              · have HST : Hid (Lfc.stStep ks cr 5 nm nm' ps ps' d tv = some tv) := Lib.hid (by unfold Lfc.stStep; rw [if_neg (by decide), if_pos rfl, if_pos hneg, if_pos hp])
                have hp1 : (ps == ps') = true := by simp [hp]
                have hp2 : (ps != ps') = false := by simp [hp]
                clear HNO HYES hp
                go_wp2_with fail
                go_meet
                exact ⟨d, tv, rfl, by omega, by omega, Lib.hid (by simp), HST, SB, Lib.hid (Oth.refl _ _)⟩
              · have HN := Lib.hid (HNO.out (by unfold Lfc.stStep; rw [if_neg (by decide), if_pos rfl, if_pos hneg, if_neg hp]))
                have hp1 : (ps == ps') = false := by simp [hp]
                have hp2 : (ps != ps') = true := by simp [hp]
                clear HNO HYES hp
                go_wp2_with fail
                go_ret
                exact HN.out _ OW.out
            · obtain ⟨q, hq⟩ : ∃ q : Nat, ps - d = q := ⟨(ps - d).toNat, by omega⟩
              have hwq : IntKind.i64.wrap (ps - d) = (q : Int) := by rw [IntWalk.i64_in _ (by omega)]; exact hq
              by_cases hqc : q < cr
              · have hq0 : (0 : Int) ≤ (q : Int) := by omega
                have hq1 : (q : Int) < (cr : Int) := by omega
                have hq2 : decide ((q : Int) < (cr : Int)) = true := by rw [decide_eq_true_eq]; exact hq1
                have hq3 : decide ((q : Int) < 0) = false := by rw [decide_eq_false_iff_not]; omega
                obtain ⟨cq, fq⟩ := SB.out.cell hqc
                have E0 : Hid (Lfc.stStep ks cr 5 nm nm' ps ps' d tv = if ps' - d < 0 ∨ Lfc.kindOf ks (ps' - d) ≠ 2 ∨ (0 ≤ tv.getD q 0 ∧ tv.getD q 0 ≠ ps' - d) then none else some (tv.set q (ps' - d))) := Lib.hid (by
                  unfold Lfc.stStep
                  rw [if_neg (by decide), if_pos rfl, if_neg hneg, if_pos (by omega), hq]
                  rfl)
                by_cases hjn : ps' - d < 0
                · have HN := Lib.hid (HNO.out (by rw [E0.out, if_pos (.inl hjn)]))
                  have hwj : IntKind.i64.wrap (ps' - d) = ps' - d := IntWalk.i64_in _ (by omega)
                  have hj1 : decide (ps' - d < 0) = true := by rw [decide_eq_true_eq]; exact hjn
                  clear HNO HYES E0
                  go_wp2_with fail
                  go_ret
                  exact HN.out _ OW.out
                · obtain ⟨j, hj⟩ : ∃ j : Nat, ps' - d = j := ⟨(ps' - d).toNat, by omega⟩
                  rw [hj] at E0
                  have hwj : IntKind.i64.wrap (ps' - d) = (j : Int) := by rw [IntWalk.i64_in _ (by omega)]; exact hj
                  have hj1 : decide ((j : Int) < 0) = false := by rw [decide_eq_false_iff_not]; omega
                  have CK := Lib.hid (oKind_any ks A0 c0 (j : Int) Wb (by omega) hks (HB0.out.below SB.out.below))
                  obtain ⟨kj, hkj⟩ : ∃ kj, Lfc.kindOf ks (j : Int) = kj := ⟨_, rfl⟩
                  obtain ⟨z, hz⟩ : ∃ z, tv.getD q 0 = z := ⟨_, rfl⟩
                  rw [hkj] at CK E0
                  rw [hz] at cq E0
                  clear hkj hz
                  by_cases hk5 : kj = 2
                  · subst hk5
                    by_cases hz0 : 0 ≤ z
                    · have hz1 : decide (0 ≤ z) = true := by rw [decide_eq_true_eq]; exact hz0
                      have hz2 : decide (z ≥ 0) = true := by rw [decide_eq_true_eq]; exact hz0
                      by_cases hzj : z = (j : Int)
                      · have HST : Hid (Lfc.stStep ks cr 5 nm nm' ps ps' d tv = some (tv.set q (j : Int))) := Lib.hid (by rw [E0.out, if_neg (by rintro (h | h | h); omega; exact h rfl; exact h.2 hzj)])
                        have hzj1 : (z == (j : Int)) = true := by simp [hzj]
                        have hzj2 : (z != (j : Int)) = false := by simp [hzj]
                        clear HNO HYES E0 hzj
                        go_wp2_with fail
                        refine CK.out.mono ?_
                        rintro e w2 ⟨rfl, rfl⟩
                        go_wp2_with fail
                        go_meet
                        exact ⟨d, _, rfl, by omega, by omega, Lib.hid (by simp), HST, Lib.hid (SB.out.set q _), Lib.hid (Oth.set _ _)⟩
                      · have HN := Lib.hid (HNO.out (by rw [E0.out, if_pos (.inr (.inr ⟨hz0, hzj⟩))]))
                        have hzj1 : (z == (j : Int)) = false := by simp [hzj]
                        have hzj2 : (z != (j : Int)) = true := by simp [hzj]
                        clear HNO HYES E0 hzj
                        go_wp2_with fail
                        refine CK.out.mono ?_
                        rintro e w2 ⟨rfl, rfl⟩
                        go_wp2_with fail
                        go_ret
                        exact HN.out _ OW.out
                    · have HST : Hid (Lfc.stStep ks cr 5 nm nm' ps ps' d tv = some (tv.set q (j : Int))) := Lib.hid (by rw [E0.out, if_neg (by rintro (h | h | h); omega; exact h rfl; exact hz0 h.1)])
                      have hz1 : decide (0 ≤ z) = false := by rw [decide_eq_false_iff_not]; exact hz0
                      have hz2 : decide (z ≥ 0) = false := by rw [decide_eq_false_iff_not]; exact hz0
                      clear HNO HYES E0 hz0
                      go_wp2_with fail
                      refine CK.out.mono ?_
                      rintro e w2 ⟨rfl, rfl⟩
                      go_wp2_with fail
                      go_meet
                      exact ⟨d, _, rfl, by omega, by omega, Lib.hid (by simp), HST, Lib.hid (SB.out.set q _), Lib.hid (Oth.set _ _)⟩
                  · have HN := Lib.hid (HNO.out (by rw [E0.out, if_pos (.inr (.inl hk5))]))
                    have hk6 : (kj == 2) = false := by simpa using hk5
                    have hk7 : (kj != 2) = true := by simpa using hk5
                    clear HNO HYES E0 hk5
                    go_wp2_with fail
                    refine CK.out.mono ?_
                    rintro e w2 ⟨rfl, rfl⟩
                    go_wp2_with fail
                    go_ret
                    exact HN.out _ OW.out
              · have hq2 : decide ((q : Int) < (cr : Int)) = false := by rw [decide_eq_false_iff_not]; omega
                have hq3 : decide ((q : Int) < 0) = false := by rw [decide_eq_false_iff_not]; omega
                have hwc : IntKind.i64.wrap (ps - (cr : Int)) = ps - (cr : Int) := IntWalk.i64_in _ (by omega)
                have E0 : Hid (Lfc.stStep ks cr 5 nm nm' ps ps' d tv = if ps' = ps - (cr : Int) then some tv else none) := Lib.hid (by
                  unfold Lfc.stStep
                  rw [if_neg (by decide), if_pos rfl, if_neg hneg, if_neg (by omega)])
                by_cases hp : ps' = ps - (cr : Int)
                · have HST : Hid (Lfc.stStep ks cr 5 nm nm' ps ps' d tv = some tv) := Lib.hid (by rw [E0.out, if_pos hp])
                  have hp1 : (ps' == ps - (cr : Int)) = true := by simp [hp]
                  have hp2 : (ps' != ps - (cr : Int)) = false := by simp [hp]
                  clear HNO HYES E0 hp
                  go_wp2_with fail
                  go_meet
                  exact ⟨d, tv, rfl, by omega, by omega, Lib.hid (by simp), HST, SB, Lib.hid (Oth.refl _ _)⟩
                · have HN := Lib.hid (HNO.out (by rw [E0.out, if_neg hp]))
                  have hp1 : (ps' == ps - (cr : Int)) = false := by simp [hp]
                  have hp2 : (ps' != ps - (cr : Int)) = true := by simp [hp]
                  clear HNO HYES E0 hp
                  go_wp2_with fail
                  go_ret
                  exact HN.out _ OW.out
          · by_cases hp : ps = ps'
            · have HST : Hid (Lfc.stStep ks cr 6 nm nm' ps ps' d tv = some tv) := Lib.hid (by simp [Lfc.stStep, hp])
              have hp1 : (ps == ps') = true := by simp [hp]
              have hp2 : (ps != ps') = false := by simp [hp]
              clear HNO HYES hp
              go_wp2_with fail
              go_meet
              exact ⟨d, tv, rfl, by omega, by omega, Lib.hid (by simp), HST, SB, Lib.hid (Oth.refl _ _)⟩
            · have HN := Lib.hid (HNO.out (by simp [Lfc.stStep, hp]))
              have hp1 : (ps == ps') = false := by simp [hp]
              have hp2 : (ps != ps') = true := by simp [hp]
              clear HNO HYES hp
              go_wp2_with fail
              go_ret
              exact HN.out _ OW.out
        case rest =>
          obtain ⟨d2, tv2, rfl, hd1, hd2, HD, HST, HS2, HO2⟩ := hcut
          have HEQ := Lib.hid (HYES.out d2 tv2 HST.out HD.out)
          have HNE := Lib.hid (And.intro (show W.heap.size ≠ G by omega) (show Wa.heap.size ≠ G by omega))
          clear y0 y1 y2 y3 z0 z1 z2 z3 c1 c2 c3 HNO HYES HD HST hps hps' hk4 hWa hWb
          obtain ⟨y0, y1, y2, y3⟩ := cells4t (HO2.out.heap QA.out HNE.out.1)
          go_wp2_with fail
          go_loopw [108] (fun i wr => ∃ (j : Nat) (tv3 : List Int), j ≤ xs.length ∧ i = .int .i64 j ∧ Hid (Lfc.Raw.sts ks cr xs ys d2 tv2 = Lfc.Raw.sts ks cr (xs.drop j) (ys.drop j) d2 tv3) ∧ Hid (StS w0 ks A0 c0 cr B1 B2 B3 B4 G wr tv3) ∧ Hid (Oth G Wb wr)) (fun i _ => xs.length - (intOf i).toNat)
          case atStart => exact ⟨0, tv2, by omega, rfl, Lib.hid (by rw [List.drop_zero, List.drop_zero]), HS2, HO2⟩
          case round =>
            clear y0 y1 y2 y3 HS2 HO2
            obtain ⟨j, tv3, hj, rfl, HQ, HS, HO⟩ := hrel
            obtain ⟨y0, y1, y2, y3⟩ := cells4t (HO.out.heap QA.out HNE.out.1)
            obtain ⟨z0, z1, z2, z3⟩ := cells4t (HO.out.heap QB.out HNE.out.2)
            have c4 := Lib.cell_of_heap HS.out.b4 0
            simp at c4
            by_cases hlt : j < xs.length
            · have hlt' : j < ys.length := by have := HL.out; omega
              obtain ⟨b, o, k1, n1, p1, us, B, cc1, rfl, hb, ht, d0, dd1, dd2, dd3, hcu, hB, hT⟩ := HA.out.at_ hlt
              obtain ⟨b', o', k2, n2, p2, us', B', cc2, rfl, hb', ht', e0, e1, e2, e3, hcu', hB', hT'⟩ := HA'.out.at_ hlt'
              have hmem := Lfc.Raw.sizes_mem xs xs[j] (List.getElem_mem _)
              have hi0 : (0 : Int) ≤ (j : Int) := Int.natCast_nonneg _
              have hi1 : (j : Int) < (xs.length : Int) := by omega
              have hi2 : (j : Int) < (ys.length : Int) := by omega
              have HBL := Lib.hid HS.out.below
              have f0 := (HBL.out.cell (p := ⟨b, o + j * 4, none⟩) hb).trans d0
              have f1 := (HBL.out.cell (p := ⟨b, o + j * 4 + 1, none⟩) hb).trans dd1
              have f2 := (HBL.out.cell (p := ⟨b, o + j * 4 + 2, none⟩) hb).trans dd2
              have f3 := (HBL.out.cell (p := ⟨b, o + j * 4 + 3, none⟩) hb).trans dd3
              have g0 := (HBL.out.cell (p := ⟨b', o' + j * 4, none⟩) hb').trans e0
              have g1 := (HBL.out.cell (p := ⟨b', o' + j * 4 + 1, none⟩) hb').trans e1
              have g2 := (HBL.out.cell (p := ⟨b', o' + j * 4 + 2, none⟩) hb').trans e2
              have g3 := (HBL.out.cell (p := ⟨b', o' + j * 4 + 3, none⟩) hb').trans e3
              have CALL := Lib.hid (IH.out xs[j] ys[j] _ _ d2 tv3 wr.drew (by omega) (by omega) (by omega) (HOX.out j hlt) (HOY.out j hlt') hT hT' (HS.out.wide (Below.refl _ _).drew))
              have HQ2 := Lib.hid (HQ.out.trans (sts_drop hlt hlt'))
              obtain ⟨r, hr⟩ : ∃ r, Lfc.Raw.st ks cr xs[j] ys[j] d2 tv3 = r := ⟨_, rfl⟩
              rw [hr] at CALL HQ2
              clear hr hB hB' ht ht' hT hT' d0 dd1 dd2 dd3 e0 e1 e2 e3 HS HQ
              go_wp2_with fail
              refine wp_region_still_tail 12 (by kernel_rfl) (by kernel_rfl) ?_
              simp only [List.take_succ_cons, List.take_zero, List.drop_succ_cons, List.drop_zero]
              change wpStill Tryz.prog _ wr.drew _ _ _
              repeat still_step
              try refine wpStill_nil ?_
              change wpList _ _ _ _ _ wr.drew
              go_wp2_with fail
              refine CALL.out.mono ?_
              rintro e w1 ⟨(⟨hn, rfl⟩ | ⟨tv4, hs4, rfl, S4⟩), o4⟩
              · have HN : Hid (StAns w0 ks A0 c0 cr B1 B2 B3 B4 G W ((Lfc.Raw.node kd nm ps xs).st ks cr (.node kd nm' ps' ys) d tv) (.returned (.bool false)) w1) := Lib.hid (StAns.no (by rw [HEQ.out, HQ2.out, hn]) ((OW.out.trans HO.out).trans ((Oth.refl _ _).drew.trans o4)))
                clear hn o4
                go_wp2_with fail
                go_ret
                exact HN.out
              · have HQ3 := Lib.hid (show Lfc.Raw.sts ks cr xs ys d2 tv2 = Lfc.Raw.sts ks cr (xs.drop (j + 1)) (ys.drop (j + 1)) d2 tv4 by rw [HQ2.out, hs4])
                have HS4 := Lib.hid S4
                have HO4 := Lib.hid (HO.out.trans ((Oth.refl _ _).drew.trans o4))
                clear hs4 S4 o4
                go_wp2_with fail
                go_roundw
                case rel => exact ⟨j + 1, tv4, by omega, by go_num, HQ3, HS4, HO4⟩
                case measure => simp [intOf]; omega
            · obtain rfl : j = xs.length := by omega
              have HZ : Hid (StAns w0 ks A0 c0 cr B1 B2 B3 B4 G W ((Lfc.Raw.node kd nm ps xs).st ks cr (.node kd nm' ps' ys) d tv) (.returned (.bool true)) wr) := Lib.hid (by
                refine ⟨.inr ⟨tv3, ?_, rfl, HS.out⟩, OW.out.trans HO.out⟩
                rw [HEQ.out, HQ.out, List.drop_length, HL.out, List.drop_length, Lfc.Raw.sts]
                all_goals intros; simp_all)
              clear HQ
              go_wp2_with fail
              go_ret
              exact HZ.out
      · have hl2 : ((xs.length : Int) != (ys.length : Int)) = true := by simp; omega
        have hl3 : (xs.length == ys.length) = false := by simpa using hl
        have HR := Lib.hid (StAns.no (w0 := w0) (ks := ks) (A0 := A0) (c0 := c0) (cr := cr) (B1 := B1) (B2 := B2) (B3 := B3) (B4 := B4) (show (Lfc.Raw.node kd nm ps xs).st ks cr (.node kd nm' ps' ys) d tv = none by rw [st_node, if_pos (.inr hl)]) OW.out)
        clear hl
        go_enter Tryz.func72, Tryz.ntmps72
        go_wp2_with fail
        go_ret
        exact HR.out
    · have hk2 : (kd != kd') = true := by simpa using hk
      have hk3 : (kd == kd') = false := by simpa using hk
      have HR := Lib.hid (StAns.no (w0 := w0) (ks := ks) (A0 := A0) (c0 := c0) (cr := cr) (B1 := B1) (B2 := B2) (B3 := B3) (B4 := B4) (show (Lfc.Raw.node kd nm ps xs).st ks cr (.node kd' nm' ps' ys) d tv = none by rw [st_node, if_pos (.inl hk)]) OW.out)
      clear hk
      go_enter Tryz.func72, Tryz.ntmps72
      go_wp2_with fail
      go_ret
      exact HR.out
end Go.Proofs.YtadjpadieljjlaaGreat
