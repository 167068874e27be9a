/- sorts, Small, WellFormed of the reference 05: they answer something. -/
import Derived.Test.YtadjpadieljjlaaGreatSmSize
import Derived.Test.YtadjpadieljjlaaGreatNames
import Derived.Test.YtadjpadieljjlaaGreatOrPar
import Derived.Deep.DeepCutAuto
import Derived.Deep.CutBlock
set_option linter.unusedVariables false
set_option linter.unusedSimpArgs false
namespace Go.Proofs.YtadjpadieljjlaaGreat
open Go.RowKit
def SortsPost (w : World) (e : Ending) (w' : World) : Prop := (∃ r : Nat, r < 8 ∧ e = .returned (.int .i64 (r : Int))) ∧ Below w.heap.size w w'
theorem sorts_ret {w w' : World} {r : Nat} (h : r < 8) (hb : Below w.heap.size w w') : SortsPost w (.returned (.int .i64 (r : Int))) w' := ⟨⟨r, h, rfl⟩, hb⟩
theorem and_lt {r : Nat} (h : r < 8) (m : Int) (hm : m = 1 ∨ m = 2 ∨ m = 6) : ∃ s : Nat, s < 8 ∧ bits BinOp.and IntKind.i64 (r : Int) m = (s : Int) := by
  rcases (show r = 0 ∨ r = 1 ∨ r = 2 ∨ r = 3 ∨ r = 4 ∨ r = 5 ∨ r = 6 ∨ r = 7 by omega) with rfl | rfl | rfl | rfl | rfl | rfl | rfl | rfl <;> rcases hm with rfl | rfl | rfl
  all_goals first | exact ⟨0, by omega, by decide⟩ | exact ⟨1, by omega, by decide⟩ | exact ⟨2, by omega, by decide⟩ | exact ⟨4, by omega, by decide⟩ | exact ⟨6, by omega, by decide⟩
set_option maxRecDepth 100000 in
set_option maxHeartbeats 8000000 in
theorem sSorts_upto (m : Nat) (hmm : m ≤ 1000000) : ∀ (t : Lfc.Raw) (v : Value) (w : World), t.size ≤ m → TreeV w t v →
    Calls Tryz.prog 74 #[v] w (SortsPost w) := by
  induction m with
  | zero => intro t v w h _; have := t.size_pos; omega
  | succ m ih0 =>
    intro t v w hm hv
    obtain ⟨kd, nm, ps, ts⟩ := t
    have hnl := hv.name_le
    obtain ⟨A, c, rfl, hc, hA⟩ := hv.open_
    simp only [Lfc.Raw.size] at hm
    have hlen := Lfc.Raw.sizes_len ts
    have IH := Lib.hid (ih0 (by omega))
    obtain ⟨w0, hw0⟩ : ∃ w0, w.alloc (.cells #[.int .i64 kd, S nm, .int .i64 ps, .slice A ts.length c] 51) = w0 := ⟨_, rfl⟩
    have b0 : Below w.heap.size w w0 := by rw [← hw0]; exact (Below.refl _ _).alloc (Nat.le_refl _) _
    have q0 : w0.heap[w.heap.size]? = some (.cells #[.int .i64 kd, S nm, .int .i64 ps, .slice A ts.length c] 51 (0, 0)) := by rw [← hw0]; exact heap_alloc_new _ _
    have s0 := lt_of_block q0
    obtain ⟨x0, x1, x2, x3⟩ := cells4t q0
    have HA := Lib.hid (hA.below b0)
    have B0 := Lib.hid b0
    have Q0 := Lib.hid q0
    have CN := Lib.hid (fun W => rIsName_any nm W (by omega))
    clear ih0 hA hv b0 q0
    go_enter Tryz.func74, Tryz.ntmps74
    go_upto_block 0 with fail
    clear hw0
    go_cut [0, 3, 4, 5] (fun s0 s3 s4 s5 wx => ∃ b3 b4 b5 : Bool, s3 = .bool b3 ∧ s4 = .bool b4 ∧ s5 = .bool b5 ∧ Below w0.heap.size w0 wx ∧ Hid (b5 = true → kd = 2 → ts.length = 2) ∧ Hid (b5 = true → kd = 3 → ts.length = 1))
    case first =>
      have CN := CN.out
      generalize Lfc.isName nm = q at *
      have CN := Lib.hid CN
      by_cases k2 : kd = 2
      · subst k2
        obtain ⟨b0_, hb0_⟩ : ∃ b, (nm == []) = b := ⟨_, rfl⟩
        obtain ⟨b1_, hb1_⟩ : ∃ b, (nm == [95]) = b := ⟨_, rfl⟩
        by_cases hl : ts.length = 2
        · have HL := Lib.hid hl
          have g2 : ((ts.length : Int) == 2) = true := by simp; omega
          skip
          clear hl
          go_wp2_with (go_at_call 104; refine (CN.out _).mono ?_; rintro e w1 ⟨rfl, rfl⟩)
          all_goals go_meet
          all_goals exact ⟨_, _, _, rfl, rfl, rfl, Below.refl _ _, Lib.hid (fun _ _ => HL.out), Lib.hid (fun _ e => by cases e)⟩
        · have g2 : ((ts.length : Int) == 2) = false := by simp; omega
          clear hl
          obtain ⟨l1, hl1⟩ : ∃ l1, ((ts.length : Int) == 1) = l1 := ⟨_, rfl⟩
          go_wp2_with (go_at_call 104; refine (CN.out _).mono ?_; rintro e w1 ⟨rfl, rfl⟩)
          all_goals go_meet
          all_goals exact ⟨_, _, _, rfl, rfl, rfl, Below.refl _ _, Lib.hid (fun e _ => absurd e (by decide)), Lib.hid (fun _ e => by cases e)⟩
      · by_cases k3 : kd = 3
        · subst k3
          obtain ⟨b0_, hb0_⟩ : ∃ b, (nm == []) = b := ⟨_, rfl⟩
          obtain ⟨b1_, hb1_⟩ : ∃ b, (nm == [95]) = b := ⟨_, rfl⟩
          by_cases hl : ts.length = 1
          · have HL := Lib.hid hl
            have g2 : ((ts.length : Int) == 1) = true := by simp; omega
            have g3 : ((ts.length : Int) == 2) = false := by simp; omega
            clear hl
            go_wp2_with (go_at_call 104; refine (CN.out _).mono ?_; rintro e w1 ⟨rfl, rfl⟩)
            all_goals go_meet
            all_goals exact ⟨_, _, _, rfl, rfl, rfl, Below.refl _ _, Lib.hid (fun _ e => by cases e), Lib.hid (fun _ _ => HL.out)⟩
          · have g2 : ((ts.length : Int) == 1) = false := by simp; omega
            clear hl
            obtain ⟨l1, hl1⟩ : ∃ l1, ((ts.length : Int) == 2) = l1 := ⟨_, rfl⟩
            go_wp2_with (go_at_call 104; refine (CN.out _).mono ?_; rintro e w1 ⟨rfl, rfl⟩)
            all_goals go_meet
            all_goals exact ⟨_, _, _, rfl, rfl, rfl, Below.refl _ _, Lib.hid (fun _ e => by cases e), Lib.hid (fun e _ => absurd e (by decide))⟩
        · have g2 : (kd == 2) = false := by simpa using k2
          have g3 : (kd == 3) = false := by simpa using k3
          have HK2 := Lib.hid k2
          have HK3 := Lib.hid k3
          clear k2 k3
          by_cases k4 : kd = 4
          · subst k4
            go_wp2_with (go_at_call 104; refine (CN.out _).mono ?_; rintro e w1 ⟨rfl, rfl⟩)
            all_goals go_meet
            all_goals exact ⟨_, _, _, rfl, rfl, rfl, Below.refl _ _, Lib.hid (fun _ e => absurd e HK2.out), Lib.hid (fun _ e => absurd e HK3.out)⟩
          · have g4 : (kd == 4) = false := by simpa using k4
            clear k4
            by_cases k5 : kd = 5
            · subst k5
              go_wp2_with fail
              all_goals go_meet
              all_goals exact ⟨_, _, _, rfl, rfl, rfl, Below.refl _ _, Lib.hid (fun _ e => absurd e HK2.out), Lib.hid (fun _ e => absurd e HK3.out)⟩
            · have g5 : (kd == 5) = false := by simpa using k5
              clear k5
              by_cases k6 : kd = 6
              · subst k6
                go_wp2_with fail
                all_goals go_meet
                all_goals exact ⟨_, _, _, rfl, rfl, rfl, Below.refl _ _, Lib.hid (fun _ e => absurd e HK2.out), Lib.hid (fun _ e => absurd e HK3.out)⟩
              · have g6 : (kd == 6) = false := by simpa using k6
                clear k6
                go_wp2_with fail
                all_goals go_meet
                all_goals exact ⟨_, _, _, rfl, rfl, rfl, Below.refl _ _, Lib.hid (fun _ e => absurd e HK2.out), Lib.hid (fun _ e => absurd e HK3.out)⟩
    case rest =>
      obtain ⟨b3, b4, b5, rfl, rfl, rfl, bw, H2, H3⟩ := hcut
      have BW := Lib.hid (B0.out.trans (bw.mono B0.out.size))
      obtain ⟨x0, x1, x2, x3⟩ := cells4t ((bw.block _ s0).trans Q0.out)
      have HA := Lib.hid (HA.out.below bw)
      have QW := Lib.hid ((bw.block _ s0).trans Q0.out)
      have sw : w.heap.size < wc.heap.size := lt_of_block QW.out
      clear bw
      by_cases hall : b3 = true ∧ b4 = true ∧ b5 = true
      · obtain ⟨rfl, rfl, rfl⟩ := hall
        have H2 := H2.out rfl
        have H3 := H3.out rfl
        by_cases k1 : kd = 1
        · subst k1
          clear H2 H3
          go_wp2_with fail
          go_ret
          exact sorts_ret (r := 4) (by omega) BW.out
        · have g1 : (kd == 1) = false := by simpa using k1
          clear k1
          by_cases k2 : kd = 2
          · subst k2
            have hl2 := H2 rfl
            clear H2 H3
            have hm0 := Lfc.Raw.sizes_mem ts ts[0] (List.getElem_mem _)
            have hm1 := Lfc.Raw.sizes_mem ts ts[1] (List.getElem_mem _)
            obtain ⟨b, o, k1, n1, p1, us, B, c1, rfl, hb, ht, d0, d1, d2, d3, hcu, hB, hT⟩ := HA.out.at_ (i := 0) (by omega)
            have hlz : (0 : Int) < (ts.length : Int) := by omega
            simp only [Nat.zero_mul, Nat.add_zero] at d0 d1 d2 d3
            clear hB ht
            go_wp2_with fail
            refine (IH.out ts[0] _ _ (by omega) hT).mono ?_
            rintro e w1 ⟨⟨r, hr, rfl⟩, hb1⟩
            obtain ⟨r2, hr2, he⟩ := and_lt hr 2 (by omega)
            clear d0 d1 d2 d3 x0 x1 x2 x3
            have BW1 := Lib.hid (BW.out.trans (hb1.mono BW.out.size))
            obtain ⟨x0, x1, x2, x3⟩ := cells4t ((hb1.block _ sw).trans QW.out)
            by_cases hz : r2 = 0
            · subst hz
              clear hb1
              go_wp2_with fail
              go_ret
              exact sorts_ret (r := 0) (by omega) BW1.out
            · have hz2 : ((r2 : Int) == 0) = false := by simp; omega
              obtain ⟨b', o', k2, n2, p2, us2, B2, c2, hA2, hb', ht', d0, d1, d2, d3, hcu', hB', hT'⟩ := (HA.out.below hb1).at_ (i := 1) (by omega)
              cases hA2
              have hlo : (1 : Int) < (ts.length : Int) := by omega
              simp only [Nat.one_mul] at d0 d1 d2 d3
              clear hB' ht' hb1
              go_wp2_with fail
              refine (IH.out ts[1] _ _ (by omega) hT').mono ?_
              rintro e w3 ⟨⟨r3, hr3, rfl⟩, hb3⟩
              obtain ⟨r4, hr4, he4⟩ := and_lt hr3 6 (by omega)
              go_wp2_with fail
              go_ret
              exact sorts_ret hr4 (BW1.out.trans (hb3.mono BW1.out.size))
          · have g2 : (kd == 2) = false := by simpa using k2
            by_cases k3 : kd = 3
            · subst k3
              have hl1 := H3 rfl
              clear H2 H3
              have hm0 := Lfc.Raw.sizes_mem ts ts[0] (List.getElem_mem _)
              obtain ⟨b, o, k1, n1, p1, us, B, c1, rfl, hb, ht, d0, d1, d2, d3, hcu, hB, hT⟩ := HA.out.at_ (i := 0) (by omega)
              have hlz : (0 : Int) < (ts.length : Int) := by omega
              simp only [Nat.zero_mul, Nat.add_zero] at d0 d1 d2 d3
              clear hB ht
              go_wp2_with fail
              refine (IH.out ts[0] _ _ (by omega) hT).mono ?_
              rintro e w1 ⟨⟨r, hr, rfl⟩, hb1⟩
              obtain ⟨r2, hr2, he⟩ := and_lt hr 1 (by omega)
              go_wp2_with fail
              go_ret
              exact sorts_ret hr2 (BW.out.trans (hb1.mono BW.out.size))
            · have g3 : (kd == 3) = false := by simpa using k3
              clear H2 H3 k2 k3
              by_cases k456 : kd = 4 ∨ kd = 5 ∨ kd = 6
              · rcases k456 with rfl | rfl | rfl
                all_goals
                  go_wp2_with fail
                  go_loopw [6] (fun i wr => ∃ k : Nat, k ≤ ts.length ∧ i = .int .i64 k ∧ Below wc.heap.size wc wr) (fun i _ => ts.length - (intOf i).toNat)
                  case atStart => exact ⟨0, by omega, rfl, Below.refl _ _⟩
                  case round =>
                    obtain ⟨k, hk, rfl, hbw⟩ := hrel
                    clear x0 x1 x2 x3
                    obtain ⟨x0, x1, x2, x3⟩ := cells4t ((hbw.block _ sw).trans QW.out)
                    have BR := Lib.hid (BW.out.trans (hbw.mono BW.out.size))
                    have hsr := hbw.size
                    by_cases hlt : k < ts.length
                    · have hm0 := Lfc.Raw.sizes_mem ts ts[k] (List.getElem_mem _)
                      obtain ⟨b, o, k1, n1, p1, us, B, c1, rfl, hb, ht, d0, d1, d2, d3, hcu, hB, hT⟩ := (HA.out.below hbw).at_ hlt
                      have HBW := Lib.hid hbw
                      clear hB ht hbw
                      go_wp2_with fail
                      refine (IH.out ts[k] _ _ (by omega) hT).mono ?_
                      rintro e w1 ⟨⟨r, hr, rfl⟩, hb1⟩
                      obtain ⟨r2, hr2, he⟩ := and_lt hr 1 (by omega)
                      clear x0 x1 x2 x3 d0 d1 d2 d3
                      by_cases hz : r2 = 0
                      · subst hz
                        go_wp2_with fail
                        go_ret
                        exact sorts_ret (r := 0) (by omega) (BR.out.trans (hb1.mono BR.out.size))
                      · have hz2 : ((r2 : Int) == 0) = false := by simp; omega
                        go_wp2_with fail
                        go_roundw
                        case rel => exact ⟨k + 1, by omega, by go_num, HBW.out.trans (hb1.mono hsr)⟩
                        case measure => simp [intOf]; omega
                    · clear hbw
                      go_wp2_with fail
                      go_ret
                      first | exact sorts_ret (r := 3) (by omega) BR.out | exact sorts_ret (r := 1) (by omega) BR.out
              · have g4 : (kd == 4) = false := by simp; omega
                have g5 : (kd == 5) = false := by simp; omega
                have g6 : (kd == 6) = false := by simp; omega
                clear k456
                go_wp2_with fail
                go_ret
                exact sorts_ret (r := 0) (by omega) BW.out
      · clear H2 H3
        have h3 : b3 = false ∨ (b3 = true ∧ b4 = false) ∨ (b3 = true ∧ b4 = true ∧ b5 = false) := by
          cases b3
          · exact .inl rfl
          · cases b4
            · exact .inr (.inl ⟨rfl, rfl⟩)
            · cases b5
              · exact .inr (.inr ⟨rfl, rfl, rfl⟩)
              · exact absurd ⟨rfl, rfl, rfl⟩ hall
        clear hall
        rcases h3 with rfl | ⟨rfl, rfl⟩ | ⟨rfl, rfl, rfl⟩
        all_goals
          go_wp2_with fail
          go_ret
          exact sorts_ret (r := 0) (by omega) BW.out
set_option maxRecDepth 100000 in
set_option maxHeartbeats 2000000 in
theorem sSmall_any (t : Lfc.Raw) (v : Value) (w : World) (ht : t.size ≤ 1000000) (hv : TreeV w t v) :
    Calls Tryz.prog 75 #[v] w fun e w' => (∃ b, e = .returned (.bool b)) ∧ Below w.heap.size w w' := by
  have HV := Lib.hid hv
  obtain ⟨kd, nm, ps, ts⟩ := t
  obtain ⟨A, c, rfl, hc, hA⟩ := hv.open_
  obtain ⟨w0, hw0⟩ : ∃ w0, w.alloc (.cells #[.int .i64 kd, S nm, .int .i64 ps, .slice A ts.length c] 51) = w0 := ⟨_, rfl⟩
  have b0 : Below w.heap.size w w0 := by rw [← hw0]; exact (Below.refl _ _).alloc (Nat.le_refl _) _
  have q0 : w0.heap[w.heap.size]? = some (.cells #[.int .i64 kd, S nm, .int .i64 ps, .slice A ts.length c] 51 (0, 0)) := by rw [← hw0]; exact heap_alloc_new _ _
  have s0 := lt_of_block q0
  obtain ⟨x0, x1, x2, x3⟩ := cells4t q0
  have C1 := Lib.hid (fun W (hb : Below w0.heap.size w0 W) => sSize_any _ _ _ W (Nat.le_refl _) (by omega) (HV.out.below (b0.trans (hb.mono b0.size))))
  have C2 := Lib.hid (fun W (hb : Below w0.heap.size w0 W) => sDepth_any _ _ _ W (Nat.le_refl _) (by omega) (HV.out.below (b0.trans (hb.mono b0.size))))
  have B0 := Lib.hid b0
  have Q0 := Lib.hid q0
  generalize (Lfc.Raw.node kd nm ps ts).size = z at *
  generalize (Lfc.Raw.node kd nm ps ts).depth = y at *
  clear hv hA b0 q0 ht
  go_enter Tryz.func75, Tryz.ntmps75
  go_wp2_with fail
  refine (C1.out _ (Below.refl _ _)).mono ?_
  rintro e w1 ⟨rfl, hb1⟩
  clear x0 x1 x2 x3 hw0
  obtain ⟨x0, x1, x2, x3⟩ := cells4t ((hb1.block _ s0).trans Q0.out)
  have HB1 := Lib.hid hb1
  by_cases hz : z ≤ 4096
  · have hz1 : decide ((z : Int) ≤ 4096) = true := by simp; omega
    clear hz hb1
    go_wp2_with fail
    refine (C2.out _ HB1.out).mono ?_
    rintro e w2 ⟨rfl, hb2⟩
    obtain ⟨bb, hbb⟩ : ∃ bb, decide ((y : Int) ≤ 128) = bb := ⟨_, rfl⟩
    go_wp2_with fail
    go_ret
    exact ⟨⟨bb, rfl⟩, B0.out.trans ((HB1.out.trans (hb2.mono HB1.out.size)).mono B0.out.size)⟩
  · have hz1 : decide ((z : Int) ≤ 4096) = false := by simp; omega
    clear hz hb1
    go_wp2_with fail
    go_ret
    exact ⟨⟨false, rfl⟩, B0.out.trans (HB1.out.mono B0.out.size)⟩
set_option maxRecDepth 100000 in
set_option maxHeartbeats 2000000 in
theorem sWf_any (t : Lfc.Raw) (v : Value) (w : World) (ht : t.size ≤ 1000000) (hv : TreeV w t v) :
    Calls Tryz.prog 47 #[v] w fun e w' => (∃ x : Int, e = .returned (.int .i64 x)) ∧ Below w.heap.size w w' := by
  have HV := Lib.hid hv
  obtain ⟨kd, nm, ps, ts⟩ := t
  obtain ⟨A, c, rfl, hc, hA⟩ := hv.open_
  obtain ⟨w0, hw0⟩ : ∃ w0, w.alloc (.cells #[.int .i64 kd, S nm, .int .i64 ps, .slice A ts.length c] 51) = w0 := ⟨_, rfl⟩
  have b0 : Below w.heap.size w w0 := by rw [← hw0]; exact (Below.refl _ _).alloc (Nat.le_refl _) _
  have q0 : w0.heap[w.heap.size]? = some (.cells #[.int .i64 kd, S nm, .int .i64 ps, .slice A ts.length c] 51 (0, 0)) := by rw [← hw0]; exact heap_alloc_new _ _
  have s0 := lt_of_block q0
  obtain ⟨x0, x1, x2, x3⟩ := cells4t q0
  have C1 := Lib.hid (fun W (hb : Below w0.heap.size w0 W) => sSorts_upto 1000000 (by omega) _ _ W ht (HV.out.below (b0.trans (hb.mono b0.size))))
  have C2 := Lib.hid (fun W (hb : Below w0.heap.size w0 W) => sSmall_any _ _ W ht (HV.out.below (b0.trans (hb.mono b0.size))))
  have B0 := Lib.hid b0
  have Q0 := Lib.hid q0
  clear hv hA b0 q0 ht
  go_enter Tryz.func47, Tryz.ntmps47
  go_wp2_with fail
  refine (C1.out _ (Below.refl _ _)).mono ?_
  rintro e w1 ⟨⟨r, hr, rfl⟩, hb1⟩
  clear x0 x1 x2 x3 hw0
  obtain ⟨x0, x1, x2, x3⟩ := cells4t ((hb1.block _ s0).trans Q0.out)
  have HB1 := Lib.hid hb1
  by_cases hz : r = 0
  · subst hz
    clear hb1
    go_wp2_with fail
    go_ret
    exact ⟨⟨1, rfl⟩, B0.out.trans (HB1.out.mono B0.out.size)⟩
  · have hz1 : ((r : Int) == 0) = false := by simp; omega
    clear hz hb1
    go_wp2_with fail
    refine (C2.out _ HB1.out).mono ?_
    rintro e w2 ⟨⟨b, rfl⟩, hb2⟩
    have HB2 := Lib.hid (B0.out.trans ((HB1.out.trans (hb2.mono HB1.out.size)).mono B0.out.size))
    clear hb2
    cases b
    all_goals
      go_wp2_with fail
      go_ret
      exact ⟨⟨_, rfl⟩, HB2.out⟩
end Go.Proofs.YtadjpadieljjlaaGreat
