/- The walk of the law TokenJoins. -/
import Derived.Test.YtmdhkcefbkdkbaaDoorWalkA
namespace Go.Proofs.YtmdhkcefbkdkbaaDoor
open Go.RowKit

theorem tok3 {w : World} {b o : Nat} {l : List Lfc.Tok} (h : ∀ k t, l[k]? = some t → w.cell? ⟨b, o + k * 3, none⟩ = some (.int .i64 t.kind) ∧ w.cell? ⟨b, o + k * 3 + 1, none⟩ = some (S t.text) ∧ w.cell? ⟨b, o + k * 3 + 2, none⟩ = some (.int .i64 (t.pos : Int))) {B : Nat} {w' : World} (hb : Below B w w') (hlt : b < B) :
    ∀ k t, l[k]? = some t → w'.cell? ⟨b, o + k * 3, none⟩ = some (.int .i64 t.kind) ∧ w'.cell? ⟨b, o + k * 3 + 1, none⟩ = some (S t.text) ∧ w'.cell? ⟨b, o + k * 3 + 2, none⟩ = some (.int .i64 (t.pos : Int)) := fun k t ht => by
  obtain ⟨h0, h1, h2⟩ := h k t ht
  exact ⟨(hb.cell (p := ⟨b, _, none⟩) hlt).trans h0, (hb.cell (p := ⟨b, _, none⟩) hlt).trans h1, (hb.cell (p := ⟨b, _, none⟩) hlt).trans h2⟩

theorem stands_pos (s : List UInt8) : ∀ (ts : List Lfc.Tok) (e : Nat), Lfc.stands s e ts → ∀ x ∈ ts, x.pos ≤ s.length := by
  intro ts
  induction ts with
  | nil => intro e _ x hx; cases hx
  | cons t r ih =>
    intro e h x hx
    obtain ⟨_, h2, _, _, h5⟩ := h
    rcases List.mem_cons.1 hx with rfl | hx
    · omega
    · exact ih _ h5 x hx
theorem sameT_refl (a : List Lfc.Tok) : SameT true a a := ⟨rfl, fun k s t hs ht => by rw [hs] at ht; cases ht; exact ⟨rfl, rfl, fun _ => rfl⟩⟩

set_option maxRecDepth 100000 in
set_option maxHeartbeats 2000000 in
theorem joins_walk (v1 v2 : Value) (z1 z2 : List Int) (w : World) (h1 : IntsAt w v1 z1) (h2 : IntsAt w v2 z2) (hp : PiecesAt w) :
    Calls Tryd.prog 6 #[v1, v2] w fun e w' => e = .returned (.bool true) ∧ Below w.heap.size w w' := by
  have hl1 := tx_len z1
  have hl2 := tx_len z2
  have hb1 := tx_brk z1
  have hb2 := tx_brk z2
  have H1 := Lib.hid (textX v1 z1 w h1 hp)
  have H2 := Lib.hid fun w' (hb : Below w.heap.size w w') => textX v2 z2 w' (h2.below hb) (hp.below hb)
  generalize tx z1 = s at *
  generalize tx z2 = t at *
  clear h1 h2 hp
  obtain ⟨ra, hra⟩ : ∃ r, Lfc.sc 0 s = r := ⟨_, rfl⟩
  obtain ⟨rb, hrb⟩ : ∃ r, Lfc.sc 0 t = r := ⟨_, rfl⟩
  have hca := Lfc.sc_count s 0
  have hcb := Lfc.sc_count t 0
  have hsh := Lfc.sc_shift (s.length + 1) t 0
  have hend := Lfc.sc_end t 0
  have hj := Lfc.sc_join s t 0
  have hpos := stands_pos t _ 0 (Lfc.sc_stands t t 0 0 (Nat.zero_le _) rfl (Nat.le_refl _))
  rw [hra] at hca hj
  rw [hrb] at hcb hsh hend hpos
  have HL1 := Lib.hid (fun W => lexX s W (by omega) (by omega) ra hra)
  have HL2 := Lib.hid (fun W => lexX t W (by omega) (by omega) rb hrb)
  obtain ⟨la, ea, na⟩ := ra
  obtain ⟨lb, eb, nb⟩ := rb
  simp only at hca hcb hend hj hpos
  have HPOS := Lib.hid hpos
  clear hpos
  clear hra hrb
  rw [Nat.zero_add] at hsh
  by_cases h0 : ea = 0 ∧ eb = 0
  · obtain ⟨rfl, rfl⟩ := h0
    have hjoin : Lfc.sc 0 (s ++ 10 :: t) = (la ++ lb.map (fun t => ⟨t.kind, t.text, t.pos + (s.length + 1)⟩), 0, s.length + 1 + t.length) := by
      rw [hj rfl, Nat.zero_add, hsh]
      simp only [Lfc.shift, if_true]
      rw [hend rfl]
      congr 2
      omega
    have HL3 := Lib.hid (fun W => lexOk (s ++ 10 :: t) W (by simp; omega) _ _ hjoin (by simp; omega))
    generalize hLB : lb.map (fun t => (⟨t.kind, t.text, t.pos + (s.length + 1)⟩ : Lfc.Tok)) = lc at *
    have HLB := Lib.hid hLB
    have hlc : lc.length = lb.length := by rw [← hLB]; simp
    clear hj hsh hend hjoin hLB
    have hna : la.length ≤ 1200 := by omega
    have hnb : lb.length ≤ 1200 := by omega
    clear hca hcb
    have HLC := Lib.hid hlc
    go_enter Tryd.func6, Tryd.ntmps6
    clear hlc
    go_wp2_with fail
    refine H1.out.mono ?_
    rintro e' w1 ⟨rfl, hbw1⟩
    go_wp2_with fail
    refine (H2.out _ hbw1).mono ?_
    rintro e' w2 ⟨rfl, hbw2⟩
    go_wp2_with fail
    refine (HL1.out _).mono ?_
    rintro e' w3 ⟨va, rfl, owna, hbw3⟩
    go_wp2_with fail
    refine (HL2.out _).mono ?_
    rintro e' w4 ⟨vb, rfl, ownb, hbw4⟩
    go_wp2_with fail
    refine (HL3.out _).mono ?_
    rintro e' w5 ⟨vc, rfl, ownc, hbw5⟩
    have ta := ((TokAt.of_own owna).below hbw4).below hbw5
    have tb := (TokAt.of_own ownb).below hbw5
    have tc := TokAt.of_own ownc
    obtain ⟨A1, c1, rfl⟩ := own_form owna
    obtain ⟨A2, c2, rfl⟩ := own_form ownb
    obtain ⟨A3, c3, rfl⟩ := own_form ownc
    have b2 := hbw1.trans (hbw2.mono hbw1.size)
    have b3 := b2.trans (hbw3.mono b2.size)
    have b4 := b3.trans (hbw4.mono b3.size)
    have b5 := b4.trans (hbw5.mono b4.size)
    have tc1 := tc.take la.length (by rw [List.length_append]; omega)
    rw [List.take_left] at tc1
    have HTA := Lib.hid ta
    have HTC1 := Lib.hid tc1
    obtain ⟨A2', c2', e2, hc2, hA2⟩ := tb
    injection e2 with q1 q2 q3
    subst q1 q3
    obtain ⟨A3', c3', e3, hc3, hA3⟩ := tc
    injection e3 with q1' q2' q3'
    subst q1' q3'
    have HA2 := Lib.hid hA2
    have HA3 := Lib.hid hA3
    have hlen : (la ++ lc).length = la.length + lb.length := by rw [List.length_append, HLC.out]
    rw [hlen] at *
    clear hA2 hA3 ta tc1 owna ownb ownc hbw1 hbw2 hbw3 hbw4 hbw5 b2 b3 b4 q2 q2' hlen
    have hc3a : la.length + lb.length ≤ c3 := by have := HLC.out; rw [List.length_append] at hc3; omega
    have hc3b : la.length ≤ c3 := by omega
    clear hc3
    go_wp2_with fail
    refine (same_any _ _ la la true _ HTC1.out HTA.out (sameT_refl la) (by omega)).mono ?_
    rintro e' w6 ⟨rfl, hbw6⟩
    have b6 := b5.trans (hbw6.mono b5.size)
    go_wp2_with fail
    go_loopw [16] (fun i wr => ∃ k : Nat, k ≤ lb.length ∧ i = .int .i64 k ∧ Below w6.heap.size w6 wr) (fun i _ => lb.length - (intOf i).toNat)
    case atStart => exact ⟨0, by omega, rfl, Below.refl _ _⟩
    case round =>
      obtain ⟨k, hk, rfl, hbw⟩ := hrel
      have b7 := hbw6.trans (hbw.mono hbw6.size)
      by_cases hlt : k < lb.length
      · have hltc : k < lc.length := by have := HLC.out; omega
        obtain ⟨bb, bo, rfl, hbb, hbc⟩ := HA2.out (by omega)
        obtain ⟨cb, co, rfl, hcb, hcc⟩ := HA3.out (by rw [List.length_append]; omega)
        obtain ⟨x0, x1, x2⟩ := hbc k lb[k] (List.getElem?_eq_getElem hlt)
        have hck : (la ++ lc)[la.length + k]? = some ⟨lb[k].kind, lb[k].text, lb[k].pos + (s.length + 1)⟩ := by
          rw [List.getElem?_append_right (by omega), Nat.add_sub_cancel_left, ← HLB.out, List.getElem?_map, List.getElem?_eq_getElem hlt]
          rfl
        obtain ⟨y0, y1, y2⟩ := hcc _ _ hck
        have hq : lb[k].pos ≤ t.length := HPOS.out _ (List.getElem_mem _)
        simp only at y0 y1 y2
        generalize lb[k].kind = kd at *
        generalize lb[k].text = tt at *
        generalize lb[k].pos = q at *
        rw [show ((q + (s.length + 1) : Nat) : Int) = (q : Int) + (s.length : Int) + 1 by omega] at y2
        have x0' := (b7.cell (p := ⟨bb, _, none⟩) hbb).trans x0
        have x1' := (b7.cell (p := ⟨bb, _, none⟩) hbb).trans x1
        have x2' := (b7.cell (p := ⟨bb, _, none⟩) hbb).trans x2
        have y0' := (b7.cell (p := ⟨cb, _, none⟩) hcb).trans y0
        have y1' := (b7.cell (p := ⟨cb, _, none⟩) hcb).trans y1
        have y2' := (b7.cell (p := ⟨cb, _, none⟩) hcb).trans y2
        have hbr : bb < wr.heap.size := by have := b7.size; omega
        clear x0 x1 x2 y0 y1 y2 hbc hcc hck
        go_wp2_with fail
        have hw2 : IntKind.i64.wrap ((q : Int) + (s.length : Int) + 1) = (q : Int) + (s.length : Int) + 1 := IntWalk.i64_in _ (by omega)
        have hw1 : IntKind.i64.wrap ((q : Int) + (s.length : Int)) = (q : Int) + (s.length : Int) := IntWalk.i64_in _ (by omega)
        go_quiet (fail)
        clear hw1 hw2
        go_wp2_with fail
        go_roundw
        case rel => exact ⟨k + 1, by omega, by go_num, below_drewN (hbw.alloc hbw.size _) _⟩
        case measure => simp [intOf]; omega
      · go_wp2_with fail
        refine (awake_any _).mono ?_
        rintro e' w7 ⟨rfl, hbw7⟩
        go_wp2_with fail
        go_ret
        have b8 := b6.trans (hbw.mono b6.size)
        exact ⟨rfl, b8.trans (hbw7.mono b8.size)⟩
  · have hg : ((ea : Int) != 0) = true ∨ (((ea : Int) != 0) = false ∧ ((eb : Int) != 0) = true) := by
      by_cases h : ea = 0
      · exact .inr ⟨by simp [h], by simp; omega⟩
      · exact .inl (by simp [h])
    clear hj hend hsh h0
    rcases hg with hg | ⟨hg, hg2⟩
    all_goals
      go_enter Tryd.func6, Tryd.ntmps6
      go_wp2_with fail
      refine H1.out.mono ?_
      rintro e' w1 ⟨rfl, hbw1⟩
      go_wp2_with fail
      refine (H2.out _ hbw1).mono ?_
      rintro e' w2 ⟨rfl, hbw2⟩
      go_wp2_with fail
      refine (HL1.out _).mono ?_
      rintro e' w3 ⟨va, rfl, owna, hbw3⟩
      go_wp2_with fail
      refine (HL2.out _).mono ?_
      rintro e' w4 ⟨vb, rfl, ownb, hbw4⟩
      go_wp2_with fail
      refine (awake_any _).mono ?_
      rintro e' w7 ⟨rfl, hbw7⟩
      go_wp2_with fail
      go_ret
      have b2 := hbw1.trans (hbw2.mono hbw1.size)
      have b3 := b2.trans (hbw3.mono b2.size)
      have b4 := b3.trans (hbw4.mono b3.size)
      exact ⟨rfl, b4.trans (hbw7.mono b4.size)⟩
end Go.Proofs.YtmdhkcefbkdkbaaDoor
