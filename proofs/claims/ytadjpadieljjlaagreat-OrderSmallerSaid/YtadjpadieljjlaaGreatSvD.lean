/- Parts of the proof: SmPart, SmPart2. -/
import Derived.Test.YtadjpadieljjlaaGreatSmRename
import Derived.Test.YtadjpadieljjlaaGreatSmKinds
import Derived.Deep.RegionLaw
import Derived.Deep.DeepCutAuto
import Derived.Deep.CutBlock
import Derived.Deep.RegionLawGrows
/- The contract of part: some term of bounded size. -/
set_option linter.unusedVariables false
set_option linter.unusedSimpArgs false
namespace Go.Proofs.YtadjpadieljjlaaGreat
open Go.RowKit Go.Maps
attribute [local go_sem ↓] Go.wp_at_zero Go.wp_at_succ
/-- What part answers. -/
def PartAns (w : World) (T n : Nat) (q : Nat → Prop) (e : Ending) (w' : World) : Prop :=
  (∃ k nm p ts A c, e = .returned (.agg #[.int .i64 k, S nm, .int .i64 p, .slice A (List.length ts) c]) ∧ TreeVP q w' (.node k nm p ts) (.agg #[.int .i64 k, S nm, .int .i64 p, .slice A (List.length ts) c]) ∧ (Lfc.Raw.node k nm p ts).size ≤ n) ∧ TapeI T w' ∧ Oth T w w'
/-- The state of the loop that descends: the term in block B. -/
structure PtD (w : World) (T B n : Nat) (q : Nat → Prop) (wr : World) : Prop where
  u : ∃ k nm p ts A c, wr.heap[B]? = some (.cells #[.int .i64 k, S nm, .int .i64 p, .slice A (List.length ts) c] 51 (0, 0)) ∧ TreeVP (fun b => q b ∧ b ≠ B ∧ b ≠ B + 1) wr (.node k nm p ts) (.agg #[.int .i64 k, S nm, .int .i64 p, .slice A (List.length ts) c]) ∧ (Lfc.Raw.node k nm p ts).size ≤ n ∧ (Lfc.Raw.node k nm p ts).posB 1048576 = true
  tape : TapeI T wr
  oth : Oth T w wr
  res : wr.heap[B + 1]? = some (.cells #[.int .i64 0, S [], .int .i64 0, .slice none 0 0] 51 (0, 0))
theorem RowP.getP {q : Nat → Prop} {w : World} : ∀ {ts : List Lfc.Raw} {xs : List Value} (i : Nat) (h : i < ts.length), RowP q w ts xs → ∃ v0 v1 v2 v3, xs[i * 4]? = some v0 ∧ xs[i * 4 + 1]? = some v1 ∧ xs[i * 4 + 2]? = some v2 ∧ xs[i * 4 + 3]? = some v3 ∧ TreeP q w ts[i] v0 v1 v2 v3
  | [], _, _, h, _ => by simp at h
  | t :: r, xs, i, h, hr => by
    rw [RowP] at hr
    obtain ⟨v0, v1, v2, v3, ys, rfl, ht, hr⟩ := hr
    match i with
    | 0 => exact ⟨v0, v1, v2, v3, rfl, rfl, rfl, rfl, ht⟩
    | i + 1 =>
      obtain ⟨u0, u1, u2, u3, h0, h1, h2, h3, hu⟩ := RowP.getP i (by simpa using h) hr
      refine ⟨u0, u1, u2, u3, ?_, ?_, ?_, ?_, hu⟩
      · rw [show (i + 1) * 4 = i * 4 + 1 + 1 + 1 + 1 by omega]; simpa using h0
      · rw [show (i + 1) * 4 + 1 = i * 4 + 1 + 1 + 1 + 1 + 1 by omega]; simpa using h1
      · rw [show (i + 1) * 4 + 2 = i * 4 + 2 + 1 + 1 + 1 + 1 by omega]; simpa using h2
      · rw [show (i + 1) * 4 + 3 = i * 4 + 3 + 1 + 1 + 1 + 1 by omega]; simpa using h3
theorem TreesAtP.at_ {q : Nat → Prop} {w : World} {A : Option Addr} {ts : List Lfc.Raw} (h : TreesAtP q w A ts) {i : Nat} (hi : i < ts.length) :
    ∃ b o k n p us B c, A = some ⟨b, o, none⟩ ∧ b < w.heap.size ∧ q b ∧ ts[i] = .node k n p us ∧ w.cell? ⟨b, o + i * 4, none⟩ = some (.int .i64 k) ∧ w.cell? ⟨b, o + i * 4 + 1, none⟩ = some (S n) ∧ w.cell? ⟨b, o + i * 4 + 2, none⟩ = some (.int .i64 p) ∧ w.cell? ⟨b, o + i * 4 + 3, none⟩ = some (.slice B us.length c) ∧ TreeVP q w (.node k n p us) (.agg #[.int .i64 k, S n, .int .i64 p, .slice B us.length c]) := by
  obtain ⟨b, o, hA, hlt, hqb, hts⟩ := h (by intro h0; rw [h0] at hi; simp at hi)
  obtain ⟨xs, hrow, hcells⟩ := hts.row
  have hx := hrow.len
  obtain ⟨v0, v1, v2, v3, h0, h1, h2, h3, hP⟩ := RowP.getP i hi hrow
  obtain ⟨k, n, p, us, ht⟩ := Lfc.Raw.ex ts[i]
  have hP' := hP
  rw [ht, TreeP] at hP
  obtain ⟨rfl, rfl, _, rfl, B, c, rfl, _⟩ := hP
  exact ⟨b, o, k, n, p, us, B, c, hA, hlt, hqb, ht, hcells _ _ h0, hcells _ _ h1, hcells _ _ h2, hcells _ _ h3, _, _, _, _, rfl, by rw [← ht]; exact hP'⟩
/-- The descent takes an argument. -/
theorem PtD.down {w wr w5 s4 : World} {T B n : Nat} {q : Nat → Prop} (hqT : ∀ b, q b → b ≠ T) {k k1 p p1 : Int} {nm n1 : List UInt8} {ts us : List Lfc.Raw} {A1 : Option Addr} {c1 i : Nat} (h : PtD w T B n q wr) (hTB : T < B) (hwB : w.heap.size ≤ B) (hsz : (Lfc.Raw.node k nm p ts).size ≤ n) (hpo : (Lfc.Raw.node k nm p ts).posB 1048576 = true) (hi : i < ts.length) (hti : ts[i] = .node k1 n1 p1 us)
    (hv : TreeVP (fun b => q b ∧ b ≠ B ∧ b ≠ B + 1) wr (.node k1 n1 p1 us) (.agg #[.int .i64 k1, S n1, .int .i64 p1, .slice A1 us.length c1])) (o5 : Oth T wr w5) (t5 : TapeI T w5) (ho : Oth B w5 s4) (hq : s4.heap[B]? = some (.cells #[.int .i64 k1, S n1, .int .i64 p1, .slice A1 us.length c1] 51 (0, 0))) : PtD w T B n q s4 := by
  have hs5 := o5.size
  have hmem := Lfc.Raw.sizes_mem ts ts[i] (List.getElem_mem _)
  have hres := lt_of_block h.res
  refine ⟨⟨k1, n1, p1, us, A1, c1, hq, hv.keep (fun b hb hlt => ?_) (Nat.le_trans hs5 ho.size) (fun b _ hb => hb), ?_, ?_⟩, t5.oth (by omega) ho, ?_, ?_⟩
  · exact (ho.block b (by omega) (fun e => hb.2.1 (Option.some.inj e))).trans (o5.block b hlt (fun e => hqT b hb.1 (Option.some.inj e)))
  · rw [← hti]; rw [Lfc.Raw.size] at hsz; omega
  · rw [← hti]
    rw [Lfc.Raw.posB, Bool.and_eq_true] at hpo
    exact Lfc.posBs_at _ ts hpo.2 i hi
  · have h1 := h.oth.size
    exact ⟨ho.os.trans (o5.os.trans h.oth.os), ho.tape.trans (o5.tape.trans h.oth.tape), ho.output.trans (o5.output.trans h.oth.output), Nat.le_trans h1 (Nat.le_trans hs5 ho.size), fun b hb hn => (ho.block b (by omega) (fun e => by have := Option.some.inj e; omega)).trans ((o5.block b (by omega) hn).trans (h.oth.block b hb hn))⟩
  · exact ho.heap (o5.heap h.res (by omega)) (by omega)
end Go.Proofs.YtadjpadieljjlaaGreat

/- The contract of part: the walk. -/
set_option linter.unusedVariables false
set_option linter.unusedSimpArgs false
namespace Go.Proofs.YtadjpadieljjlaaGreat
open Go.RowKit Go.Maps
attribute [local go_sem ↓] Go.wp_at_zero Go.wp_at_succ
set_option maxRecDepth 100000 in
set_option maxHeartbeats 16000000 in
theorem mPart_any (q : Nat → Prop) (T vars n : Nat) (u : Lfc.Raw) (vu : Value) (w : World) (hn : n ≤ 90) (hvars : vars ≤ 50) (hu : u.size ≤ n) (hpo : u.posB 1048576 = true) (hT : TapeI T w) (hqT : ∀ b, q b → b ≠ T) (hqn : ∀ b, w.heap.size ≤ b → q b) (hv : TreeVP q w u vu) :
    Calls Tryz.prog 29 #[.pointer (some ⟨T, 0, none⟩), vu, .int .i64 (vars : Int)] w (PartAns w T n q) := by
  have hTl := hT.lt
  obtain ⟨i0, hi, hz0, hz1, hz2⟩ := info_parts intInfo
  obtain ⟨ku, nu, pu, us, hue⟩ := Lfc.Raw.ex u
  rw [hue] at hv hu hpo
  obtain ⟨Au, cu, rfl, hpu⟩ := hv.openT
  obtain ⟨w2, hw2⟩ : ∃ w2, (w.alloc (.cells #[.int .i64 ku, S nu, .int .i64 pu, .slice Au us.length cu] 51)).alloc (.cells #[.int .i64 0, S [], .int .i64 0, .slice none 0 0] 51) = w2 := ⟨_, rfl⟩
  have b12 : Below w.heap.size w w2 := by rw [← hw2]; exact ((Below.refl _ _).alloc (Nat.le_refl _) _).alloc (by simp) _
  have q1 : w2.heap[w.heap.size]? = some (.cells #[.int .i64 ku, S nu, .int .i64 pu, .slice Au us.length cu] 51 (0, 0)) := by rw [← hw2]; exact (Lib.alloc_old _ _ _ (by simp)).trans (heap_alloc_new _ _)
  have q2 : w2.heap[w.heap.size + 1]? = some (.cells #[.int .i64 0, S [], .int .i64 0, .slice none 0 0] 51 (0, 0)) := by
    rw [← hw2]
    have := heap_alloc_new (w.alloc (.cells #[.int .i64 ku, S nu, .int .i64 pu, .slice Au us.length cu] 51)) (.cells #[.int .i64 0, S [], .int .i64 0, .slice none 0 0] 51)
    simpa using this
  have D0 : Hid (PtD w T w.heap.size n q w2) := Lib.hid ⟨⟨ku, nu, pu, us, Au, cu, q1, hv.keep (fun b _ hlt => b12.block b hlt) b12.size (fun b hlt hb => ⟨hb, by omega, by omega⟩), hu, hpo⟩, hT.below b12, Oth.of_below b12, q2⟩
  clear hv hpu hT q1 q2 b12 hu hpo hue
  go_enter Tryz.func29, Tryz.ntmps29
  go_wp2_with fail
  clear hw2
  refine (tapeI_next T 4 w2 (by omega) (by omega) D0.out.tape).mono ?_
  rintro e w3 ⟨⟨r, hr, rfl⟩, T3, o3⟩
  have D1 : Hid (PtD w T w.heap.size n q w3) := Lib.hid (by
    obtain ⟨k, nm, p, ts, A, c, hq, hv, hsz, hpo⟩ := D0.out.u
    exact ⟨⟨k, nm, p, ts, A, c, o3.heap hq (by omega), hv.keep (fun b hb hlt => o3.block b hlt (fun e => hqT b hb.1 (Option.some.inj e))) o3.size (fun b _ hb => hb), hsz, hpo⟩, T3, D0.out.oth.trans o3, o3.heap D0.out.res (by omega)⟩)
  clear D0 T3 o3
  go_upto_block 0 with fail
  go_cut [7, 8] (fun s7 s8 wx => ∃ c : Nat, s7 = .int .i64 (c : Int) ∧ c ≤ 3 ∧ Hid (PtD w T w.heap.size n q wx))
  case first =>
    go_wp2_with fail
    go_loopw [7, 8] (fun cr i wr => ∃ j c : Nat, i = .int .i64 (j : Int) ∧ cr = .int .i64 (c : Int) ∧ j + c ≤ 3 ∧ Hid (PtD w T w.heap.size n q wr)) (fun _ i _ => (intOf i).toNat)
    case atStart => exact ⟨r, 0, rfl, rfl, by omega, D1⟩
    case round =>
      obtain ⟨j, c, rfl, rfl, hjc, HD⟩ := hrel
      clear D1
      obtain ⟨k, nm, p, ts, A, ca, hq, hvt, hsz, hpo⟩ := HD.out.u
      obtain ⟨x0, x1, x2, x3⟩ := cells4t hq
      have HQ := Lib.hid hq
      have HV := Lib.hid hvt
      have HSZ := Lib.hid (And.intro hsz hpo)
      have hlen : ts.length ≤ 90 := by have := Lfc.Raw.sizes_len ts; rw [Lfc.Raw.size] at hsz; omega
      have hlt := lt_of_block hq
      clear hq hvt hsz hpo
      by_cases hgo : 0 < j ∧ 0 < ts.length
      · obtain ⟨hj0, ht0⟩ := hgo
        have hj1 : decide ((j : Int) > 0) = true := by rw [decide_eq_true_eq]; omega
        have ht1 : decide ((ts.length : Int) > 0) = true := by rw [decide_eq_true_eq]; omega
        have hjw : IntKind.i64.wrap ((j : Int) - 1) = ((j - 1 : Nat) : Int) := by rw [IntWalk.i64_in _ (by omega)]; omega
        have hcw : IntKind.i64.wrap ((c : Int) + 1) = ((c + 1 : Nat) : Int) := by rw [IntWalk.i64_in _ (by omega)]; omega
        have EL : Hid (∀ w5 i, Oth T wr.drew w5 → TapeI T w5 → i < ts.length → ∃ b o k1 n1 p1 us B c1, A = some ⟨b, o, none⟩ ∧ w5.cell? ⟨w.heap.size, 3, none⟩ = some (.slice A ts.length ca) ∧ (w5.cell? ⟨b, o + i * 4, none⟩ = some (.int .i64 k1) ∧ w5.cell? ⟨b, o + i * 4 + 1, none⟩ = some (S n1) ∧ w5.cell? ⟨b, o + i * 4 + 2, none⟩ = some (.int .i64 p1) ∧ w5.cell? ⟨b, o + i * 4 + 3, none⟩ = some (.slice B (List.length us) c1)) ∧
          ∃ s1 s2 s3 s4, w5.setCell ⟨w.heap.size, 0, none⟩ (.int .i64 k1) = s1 ∧ s1.setCell ⟨w.heap.size, 1, none⟩ (S n1) = s2 ∧ s2.setCell ⟨w.heap.size, 2, none⟩ (.int .i64 p1) = s3 ∧ s3.setCell ⟨w.heap.size, 3, none⟩ (.slice B (List.length us) c1) = s4 ∧
          (w5.cell? ⟨w.heap.size, 0, none⟩ = some (.int .i64 k) ∧ s1.cell? ⟨w.heap.size, 1, none⟩ = some (S nm) ∧ s2.cell? ⟨w.heap.size, 2, none⟩ = some (.int .i64 p) ∧ s3.cell? ⟨w.heap.size, 3, none⟩ = some (.slice A ts.length ca)) ∧
          (w5.frozen? ⟨w.heap.size, 0, none⟩ = false ∧ s1.frozen? ⟨w.heap.size, 1, none⟩ = false ∧ s2.frozen? ⟨w.heap.size, 2, none⟩ = false ∧ s3.frozen? ⟨w.heap.size, 3, none⟩ = false) ∧ Hid (PtD w T w.heap.size n q s4)) := Lib.hid (fun w5 i o5 t5 hi => by
            have o5' : Oth T wr w5 := ⟨o5.os, o5.tape, o5.output, o5.size, o5.block⟩
            have hA : TreesAtP (fun b => q b ∧ b ≠ w.heap.size ∧ b ≠ w.heap.size + 1) wr A ts := by
              obtain ⟨v0, v1, v2, v3, e, hP⟩ := HV.out
              cases e
              rw [TreeP] at hP
              obtain ⟨_, _, _, _, A', c', e, h1, h2⟩ := hP
              cases e
              exact h2
            obtain ⟨b, o, k1, n1, p1, us, B, c1, hA1, hb, hqb, hti, d0, d1, d2, d3, hve⟩ := hA.at_ hi
            have cc : ∀ j, w5.cell? ⟨b, j, none⟩ = wr.cell? ⟨b, j, none⟩ := fun j => o5'.cell (p := ⟨b, j, none⟩) hb (hqT b hqb.1)
            obtain ⟨s1, s2, s3, s4, g1, g2, g3, g4, hy, hf, hq4, hot⟩ := tput4 (o5'.heap HQ.out (by omega)) (.int .i64 k1) (S n1) (.int .i64 p1) (.slice B us.length c1)
            exact ⟨b, o, k1, n1, p1, us, B, c1, hA1, Lib.cell_of_heap (o5'.heap HQ.out (by omega)) 3, ⟨(cc _).trans d0, (cc _).trans d1, (cc _).trans d2, (cc _).trans d3⟩, s1, s2, s3, s4, g1, g2, g3, g4, hy, hf, Lib.hid (HD.out.down hqT (by omega) (Nat.le_refl _) HSZ.out.1 HSZ.out.2 hi hti hve o5' t5 hot hq4)⟩)
        have TX := Lib.hid HD.out.tape
        have hk : ((k == 3) = true) ∨ ((k == 3) = false) := by cases (k == 3) <;> simp
        rcases hk with g3 | g3
        all_goals
          go_upto_region 7 with fail
          go_region_law (go_simp; go_at_call 12; refine (tapeI_next T ts.length _ ht0 (by omega) (TX.out.below (Below.refl _ _).drew)).mono ?_; rintro e w5 ⟨⟨i, hi2, rfl⟩, T5, o5⟩; obtain ⟨b, o, k1, n1, p1, us, B, c1, hA1, y3w, ⟨d0, d1, d2, d3⟩, s1, s2, s3, s4, e1, e2, e3, e4, ⟨y0, y1, y2, y3⟩, ⟨f0, f1, f2, f3⟩, HN⟩ := EL.out w5 i o5 T5 hi2; subst hA1; have hi3 : (0 : Int) ≤ (i : Int) := Int.natCast_nonneg _; have hi4 : (i : Int) < (ts.length : Int) := by omega)
          all_goals
            clear T5 o5
            go_wp2_with fail
            go_roundw
            case rel => first | exact ⟨j - 1, c + 1, rfl, rfl, by omega, HN⟩ | exact ⟨j - 1, c, rfl, rfl, by omega, HN⟩
            case measure => simp [intOf]; omega
      · have hstop : j = 0 ∨ (0 < j ∧ ts.length = 0) := by omega
        have HM := HD
        clear hgo
        rcases hstop with rfl | ⟨hj0, ht0⟩
        · go_wp2_with fail
          go_meet
          exact ⟨c, rfl, by omega, HM⟩
        · have hj1 : decide ((j : Int) > 0) = true := by rw [decide_eq_true_eq]; omega
          obtain rfl : ts = [] := List.length_eq_zero_iff.1 ht0
          have ht1 : decide (((([] : List Lfc.Raw).length : Nat) : Int) > 0) = false := by decide
          go_wp2_with fail
          go_meet
          exact ⟨c, rfl, by omega, HM⟩
  case rest =>
    obtain ⟨c, rfl, hc3, HD⟩ := hcut
    rename_i wr
    obtain ⟨k, nm, p, ts, A, ca, hq, hvt, hsz, hpo⟩ := HD.out.u
    have HQ := Lib.hid hq
    have HV := Lib.hid hvt
    have HSZ := Lib.hid (And.intro hsz hpo)
    have hlt := lt_of_block hq
    clear hq hvt hsz hpo D1
    have HRES := Lib.hid HD.out.res
    have hrl := lt_of_block HRES.out
    have I0 : Hid (KdI wc T [] (.slice none 0 0) wc) := Lib.hid ⟨HD.out.tape, Oth.refl _ _, ⟨by simp [ints], .inl ⟨rfl, rfl⟩⟩⟩
    have HOW0 := Lib.hid HD.out.oth
    have hTr : T < wc.heap.size := HD.out.tape.lt
    have hvw : IntKind.i64.wrap ((vars : Int) + 1) = ((vars + 1 : Nat) : Int) := by rw [IntWalk.i64_in _ (by omega)]; omega
    clear HD
    go_wp2_with fail
    go_loopw [9, 10] (fun v i wr => ∃ (j : Nat) (ks : List Int) (A' : Option Addr) (c' : Nat), i = .int .i64 (j : Int) ∧ j ≤ c ∧ ks.length ≤ 0 + j ∧ v = .slice A' ks.length c' ∧ Hid (KdI wc T ks (.slice A' ks.length c') wr)) (fun _ i _ => c - (intOf i).toNat)
    case atStart => exact ⟨0, _, _, _, rfl, by omega, by first | omega | simp, rfl, I0⟩
    case round =>
      obtain ⟨j, ks, A', c', rfl, hjg, hkj, rfl, HI⟩ := hrel
      clear I0
      by_cases hj : j < c
      · have hj1 : decide ((j : Int) < (c : Int)) = true := by rw [decide_eq_true_eq]; omega
        obtain ⟨lk, hlk⟩ : ∃ lk, ks.length = lk := ⟨_, rfl⟩
        have hlm : lk + 1 ≤ maxLen := by unfold maxLen; omega
        have hl8 : (lk + 1) * 8 ≤ 140737488355328 := by omega
        have HKJ := Lib.hid hkj
        have HLK := Lib.hid hlk
        have hsx := HI.out.oth.size
        rw [hlk]
        clear hlk hkj
        go_wp2_with fail
        refine (tapeI_next T (vars + 1) _ (by omega) (by omega) HI.out.tape).mono ?_
        rintro e w5 ⟨⟨x, hx, rfl⟩, T5, o5⟩
        have I5 := Lib.hid (HI.out.moved hTr o5 T5)
        have HOW : Hid (w5.ownsRow wc.heap.size 3 1 (.slice A' lk c') lk (ints ks)) := Lib.hid (by rw [← HLK.out]; exact I5.out.own)
        have hsz5 := I5.out.oth.size
        clear T5 o5
        go_wp2_with (at_builtin; refine wpList_append_own_at _ rfl _ _ 22 rfl wc.heap.size 3 i0 (.int .i64 0) 1 8 Tryz.underlying22 hi hz0 hz1 hz2 rfl (by decide) _ _ _ rfl (HOW.out.alloc _) ⟨w5.heap.size, 0, none⟩ 1 1 [.int .i64 (x : Int)] rfl rfl (fun jj v hj => ocells_new w5 _ rfl [.int .i64 (x : Int)] 3 jj v hj) (by intro v hv; simp at hv; subst hv; rfl) hlm hl8 (oalloc_le hsz5) ?_)
        intro v9 w9 hown9 hg9 _ _
        obtain ⟨A9, c9, rfl⟩ := oform hown9
        have HN : Hid (KdI wc T (ks ++ [(x : Int)]) (.slice A9 (ks ++ [(x : Int)]).length c9) w9) := Lib.hid (by
          have el : (ks ++ [(x : Int)]).length = lk + 1 := by rw [List.length_append, HLK.out]; rfl
          rw [el]
          exact I5.out.step hTr (by rw [HLK.out]; exact hg9) (by rw [HLK.out]; exact hown9))
        have HL9 : Hid ((ks ++ [(x : Int)]).length = lk + 1 ∧ (ks ++ [(x : Int)]).length ≤ 0 + (j + 1)) := Lib.hid (by
          have el : (ks ++ [(x : Int)]).length = lk + 1 := by rw [List.length_append, HLK.out]; rfl
          have h1 := HKJ.out
          have h2 := HLK.out
          omega)
        clear hown9 hg9
        go_wp2_with fail
        go_roundw
        case rel => exact ⟨j + 1, ks ++ [(x : Int)], A9, c9, by go_num, by omega, HL9.out.2, by rw [HL9.out.1], HN⟩
        case measure => simp [intOf]; omega
      · have hj1 : decide ((j : Int) < (c : Int)) = false := by rw [decide_eq_false_iff_not]; omega
        have I0 : Hid (KdI wc T ks (.slice A' ks.length c') wr) := HI
        have hk3 : ks.length ≤ 3 := by omega
        clear HI hkj hjg
        go_wp2_with fail
        go_loopw [9, 11] (fun v i wr => ∃ (j : Nat) (ks : List Int) (A' : Option Addr) (c' : Nat), i = .int .i64 (j : Int) ∧ j ≤ 12 ∧ ks.length ≤ 3 + j ∧ v = .slice A' ks.length c' ∧ Hid (KdI wc T ks (.slice A' ks.length c') wr)) (fun _ i _ => 12 - (intOf i).toNat)
        case atStart => exact ⟨0, ks, A', c', rfl, by omega, by omega, rfl, I0⟩
        case round =>
          obtain ⟨j, ks, A', c', rfl, hjg, hkj, rfl, HI⟩ := hrel
          clear I0
          by_cases hj : j < 12
          · have hj1 : decide ((j : Int) < 12) = true := by rw [decide_eq_true_eq]; omega
            obtain ⟨lk, hlk⟩ : ∃ lk, ks.length = lk := ⟨_, rfl⟩
            have hlm : lk + 1 ≤ maxLen := by unfold maxLen; omega
            have hl8 : (lk + 1) * 8 ≤ 140737488355328 := by omega
            have HKJ := Lib.hid hkj
            have HLK := Lib.hid hlk
            have hsz5 := HI.out.oth.size
            have HOW : Hid (wr.ownsRow wc.heap.size 3 1 (.slice A' lk c') lk (ints ks)) := Lib.hid (by rw [← hlk]; exact HI.out.own)
            rw [hlk]
            clear hlk hkj
            go_wp2_with (at_builtin; refine wpList_append_own_at _ rfl _ _ 22 rfl wc.heap.size 3 i0 (.int .i64 0) 1 8 Tryz.underlying22 hi hz0 hz1 hz2 rfl (by decide) _ _ _ rfl (HOW.out.alloc _) ⟨wr.heap.size, 0, none⟩ 1 1 [.int .i64 (j : Int)] rfl rfl (fun jj v hj => ocells_new wr _ rfl [.int .i64 (j : Int)] 3 jj v hj) (by intro v hv; simp at hv; subst hv; rfl) hlm hl8 (oalloc_le hsz5) ?_)
            intro v9 w9 hown9 hg9 _ _
            obtain ⟨A9, c9, rfl⟩ := oform hown9
            have HN : Hid (KdI wc T (ks ++ [(j : Int)]) (.slice A9 (ks ++ [(j : Int)]).length c9) w9) := Lib.hid (by
              have el : (ks ++ [(j : Int)]).length = lk + 1 := by rw [List.length_append, HLK.out]; rfl
              rw [el]
              exact HI.out.step hTr (by rw [HLK.out]; exact hg9) (by rw [HLK.out]; exact hown9))
            have HL9 : Hid ((ks ++ [(j : Int)]).length = lk + 1 ∧ (ks ++ [(j : Int)]).length ≤ 3 + (j + 1)) := Lib.hid (by
              have el : (ks ++ [(j : Int)]).length = lk + 1 := by rw [List.length_append, HLK.out]; rfl
              have h1 := HKJ.out
              have h2 := HLK.out
              omega)
            clear hown9 hg9
            go_wp2_with fail
            go_roundw
            case rel => exact ⟨j + 1, ks ++ [(j : Int)], A9, c9, by go_num, by omega, HL9.out.2, by rw [HL9.out.1], HN⟩
            case measure => simp [intOf]; omega
          · have hj1 : decide ((j : Int) < 12) = false := by rw [decide_eq_false_iff_not]; omega
            have BX : Hid (wr.heap[w.heap.size]? = some (.cells #[.int .i64 k, S nm, .int .i64 p, .slice A ts.length ca] 51 (0, 0))) := Lib.hid (HI.out.oth.heap HQ.out (by omega))
            have RX : Hid (wr.heap[w.heap.size + 1]? = some (.cells #[.int .i64 0, S [], .int .i64 0, .slice none 0 0] 51 (0, 0))) := Lib.hid (HI.out.oth.heap HRES.out (by omega))
            have hvx := HV.out.keep (fun b hb hlt => HI.out.oth.block b hlt (fun e => hqT b hb.1 (Option.some.inj e))) HI.out.oth.size (fun b _ hb => hb)
            have HVX := Lib.hid hvx
            have IX := HI.out.ints
            have hkl : ks.length ≤ 20 := by omega
            have CR := Lib.hid (sRename_any _ _ ks A' c' wr (by have := HSZ.out.1; omega) HSZ.out.2 (by omega) IX.toO hvx.toV)
            have HOX := Lib.hid (HOW0.out.trans HI.out.oth)
            have TX := Lib.hid HI.out.tape
            have hsx := HI.out.oth.size
            obtain ⟨x0, x1, x2, x3⟩ := cells4t BX.out
            clear hvx IX HI hkj hjg
            go_wp2_with fail
            refine CR.out.mono ?_
            rintro e w6 ⟨⟨k9, n9, p9, ts9, A9, c9, b9, rfl, hv9, hz9, hq9⟩, b6⟩
            obtain ⟨w7, hw7⟩ : ∃ w7, w6.alloc (.cells #[.int .i64 k9, S n9, .int .i64 p9, .slice A9 ts9.length c9] 51) = w7 := ⟨_, rfl⟩
            have b7 : Below w6.heap.size w6 w7 := by rw [← hw7]; exact (Below.refl _ _).alloc (Nat.le_refl _) _
            have q7 : w7.heap[w6.heap.size]? = some (.cells #[.int .i64 k9, S n9, .int .i64 p9, .slice A9 ts9.length c9] 51 (0, 0)) := by rw [← hw7]; exact heap_alloc_new _ _
            have b67 : Below wr.heap.size wr w7 := b6.trans (b7.mono b6.size)
            have hs67 := b67.size
            have H7 := Lib.hid hw7
            have RES : Hid (∀ (k' p' : Int) (n' : List UInt8) (ts' : List Lfc.Raw) (A'' : Option Addr) (c'' : Nat), TreeVP (fun b => q b ∧ b ≠ w.heap.size + 1) w7 (.node k' n' p' ts') (.agg #[.int .i64 k', S n', .int .i64 p', .slice A'' (List.length ts') c'']) → (Lfc.Raw.node k' n' p' ts').size ≤ n → ∃ s1 s2 s3 s4, w7.setCell ⟨w.heap.size + 1, 0, none⟩ (.int .i64 k') = s1 ∧ s1.setCell ⟨w.heap.size + 1, 1, none⟩ (S n') = s2 ∧ s2.setCell ⟨w.heap.size + 1, 2, none⟩ (.int .i64 p') = s3 ∧ s3.setCell ⟨w.heap.size + 1, 3, none⟩ (.slice A'' (List.length ts') c'') = s4 ∧
              (w7.cell? ⟨w.heap.size + 1, 0, none⟩ = some (.int .i64 0) ∧ s1.cell? ⟨w.heap.size + 1, 1, none⟩ = some (S []) ∧ s2.cell? ⟨w.heap.size + 1, 2, none⟩ = some (.int .i64 0) ∧ s3.cell? ⟨w.heap.size + 1, 3, none⟩ = some (.slice none 0 0)) ∧
              (w7.frozen? ⟨w.heap.size + 1, 0, none⟩ = false ∧ s1.frozen? ⟨w.heap.size + 1, 1, none⟩ = false ∧ s2.frozen? ⟨w.heap.size + 1, 2, none⟩ = false ∧ s3.frozen? ⟨w.heap.size + 1, 3, none⟩ = false) ∧
              Hid (s4.heap[w.heap.size + 1]? = some (.cells #[.int .i64 k', S n', .int .i64 p', .slice A'' (List.length ts') c''] 51 (0, 0))) ∧ Hid (PartAns w T n q (.returned (.agg #[.int .i64 k', S n', .int .i64 p', .slice A'' (List.length ts') c''])) s4)) := Lib.hid (fun k' p' n' ts' A'' c'' hv' hz' => by
                obtain ⟨s1, s2, s3, s4, g1, g2, g3, g4, hy, hf, hq4, hot⟩ := tput4 ((b67.block _ (by omega)).trans RX.out) (.int .i64 k') (S n') (.int .i64 p') (.slice A'' (List.length ts') c'')
                refine ⟨s1, s2, s3, s4, g1, g2, g3, g4, hy, hf, Lib.hid hq4, Lib.hid ⟨⟨k', n', p', ts', A'', c'', rfl, hv'.keep (fun b hb hlt => hot.block b hlt (fun e => hb.2 (Option.some.inj e))) hot.size (fun b _ hb => hb.1), hz'⟩, (TX.out.below b67).oth (by omega) hot, ?_⟩⟩
                exact Oth.of_new HOX.out ⟨hot.os.trans b67.os, hot.tape.trans b67.tape, hot.output.trans b67.output, Nat.le_trans hs67 hot.size, fun b hb => (hot.block b (by omega) (fun e => by have := Option.some.inj e; omega)).trans (b67.block b (by omega))⟩)
            have V1 : Hid (TreeVP (fun b => q b ∧ b ≠ w.heap.size + 1) w7 (.node k9 n9 p9 ts9) (.agg #[.int .i64 k9, S n9, .int .i64 p9, .slice A9 ts9.length c9])) := Lib.hid (hv9.keep (fun b _ hlt => b7.block b hlt) b7.size (fun b _ hb => by have hb : wr.heap.size ≤ b := hb; exact ⟨hqn b (by omega), by omega⟩))
            have Z1 := Lib.hid (show (Lfc.Raw.node k9 n9 p9 ts9).size ≤ n from Nat.le_trans hz9 HSZ.out.1)
            obtain ⟨u0, u1, u2, u3⟩ := cells4t q7
            have z := cells4t ((b67.block _ (by omega)).trans BX.out)
            obtain ⟨z0, z1, z2, z3⟩ := z
            clear hv9 hz9 hq9 b6 b7 q7 hw7
            go_upto_region 18 with fail
            rw [H7.out]
            clear H7 x0 x1 x2 x3
            cases b9
            case false =>
              have hv7 : Hid (TreeVP (fun b => q b ∧ b ≠ w.heap.size + 1) w7 (.node k nm p ts) (.agg #[.int .i64 k, S nm, .int .i64 p, .slice A ts.length ca])) := Lib.hid (HVX.out.keep (fun b _ hlt => b67.block b hlt) b67.size (fun b _ hb => ⟨hb.1, hb.2.2⟩))
              obtain ⟨s1, s2, s3, s4, g1, g2, g3', g4, ⟨y0, y1, y2, y3⟩, ⟨f0, f1, f2, f3⟩, HQ4, HZ⟩ := RES.out k p nm ts A ca hv7.out HSZ.out.1
              clear b67 u0 u1 u2 u3
              go_wp2_with fail
              refine bodyPost_ret (results_term rfl _ _ _ _ _ _ _ rfl HQ4.out) rfl ?_
              exact HZ.out
            case true =>
              obtain ⟨s1, s2, s3, s4, g1, g2, g3', g4, ⟨y0, y1, y2, y3⟩, ⟨f0, f1, f2, f3⟩, HQ4, HZ⟩ := RES.out k9 p9 n9 ts9 A9 c9 V1.out Z1.out
              clear b67 z0 z1 z2 z3
              go_wp2_with fail
              refine bodyPost_ret (results_term rfl _ _ _ _ _ _ _ rfl HQ4.out) rfl ?_
              exact HZ.out
end Go.Proofs.YtadjpadieljjlaaGreat
