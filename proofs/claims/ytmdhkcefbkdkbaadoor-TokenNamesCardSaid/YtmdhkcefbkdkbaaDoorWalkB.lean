/- The walks of the laws TokenNames and TokenOffsets. -/
import Derived.Test.YtmdhkcefbkdkbaaDoorWalkA
namespace Go.Proofs.YtmdhkcefbkdkbaaDoor
open Go.RowKit

set_option maxRecDepth 100000 in
set_option maxHeartbeats 1000000 in
theorem names_walk (v1 : Value) (s : ByteArray) (z1 : List Int) (w : World) (hs : s.size ≤ maxLen) (h1 : IntsAt w v1 z1) (hp : PiecesAt w) :
    Calls Tryd.prog 4 #[.string s, v1] w fun e w' => e = .returned (.bool true) ∧ Below w.heap.size w w' := by
  obtain ⟨l, rfl⟩ : ∃ l : List UInt8, s = ⟨l.toArray⟩ := ⟨s.data.toList, rfl⟩
  rw [bsize] at hs
  unfold maxLen at hs
  have hl1 := tx_len z1
  have H1 := Lib.hid (textX v1 z1 w h1 hp)
  generalize tx z1 = t at *
  clear h1 hp
  by_cases hlong : 300 < l.length
  · go_enter Tryd.func4, Tryd.ntmps4
    go_wp2_with fail
    refine (awake_any _).mono ?_
    rintro e' w3 ⟨rfl, hbw3⟩
    go_wp2_with fail
    go_ret
    exact ⟨rfl, hbw3⟩
  · have HN := Lib.hid (fun (x : List UInt8) W (h : x.length ≤ 20000) => isName_any x W (by omega))
    have HF := Lib.hid (fun (x : List UInt8) W (h : x.length ≤ 20000) => isFree_any x W (by omega))
    have RN := Lib.hid (fun (x : List UInt8) W (h : x.length ≤ 20000) => rIsName_any x W (by omega))
    have RF := Lib.hid (fun (x : List UInt8) W (h : x.length ≤ 20000) => rIsFree_any x W (by omega))
    have fin : ∀ (x : List UInt8), x.length ≤ 20000 → True := fun _ _ => trivial
    by_cases ht : 300 < t.length
    all_goals
      go_enter Tryd.func4, Tryd.ntmps4
      go_wp2_with fail
      refine H1.out.mono ?_
      rintro e' w1 ⟨rfl, hbw1⟩
      go_wp2_with fail
      refine (HN.out l _ (by omega)).mono ?_
      rintro e' w' ⟨rfl, rfl⟩
      go_wp2_with fail
      refine (RN.out l _ (by omega)).mono ?_
      rintro e' w' ⟨rfl, rfl⟩
      go_wp2_with fail
      refine (HF.out l _ (by omega)).mono ?_
      rintro e' w' ⟨rfl, rfl⟩
      go_wp2_with fail
      refine (RF.out l _ (by omega)).mono ?_
      rintro e' w' ⟨rfl, rfl⟩
      go_wp2_with fail
      refine (HN.out _ _ (by first | omega | (rw [List.length_take]; omega))).mono ?_
      rintro e' w' ⟨rfl, rfl⟩
      go_wp2_with fail
      refine (RN.out _ _ (by first | omega | (rw [List.length_take]; omega))).mono ?_
      rintro e' w' ⟨rfl, rfl⟩
      go_wp2_with fail
      refine (HF.out _ _ (by first | omega | (rw [List.length_take]; omega))).mono ?_
      rintro e' w' ⟨rfl, rfl⟩
      go_wp2_with fail
      refine (RF.out _ _ (by first | omega | (rw [List.length_take]; omega))).mono ?_
      rintro e' w' ⟨rfl, rfl⟩
      go_wp2_with fail
      refine (awake_any _).mono ?_
      rintro e' w3 ⟨rfl, hbw3⟩
      go_wp2_with fail
      go_ret
      exact ⟨rfl, hbw1.trans (hbw3.mono hbw1.size)⟩

set_option maxRecDepth 100000 in
set_option maxHeartbeats 2000000 in
theorem offsets_walk (v1 : Value) (z1 : List Int) (w : World) (h1 : IntsAt w v1 z1) (hp : PiecesAt w) :
    Calls Tryd.prog 9 #[v1] w fun e w' => e = .returned (.bool true) ∧ Below w.heap.size w w' := by
  have hl1 := tx_len z1
  have hb1 := tx_brk z1
  have H1 := Lib.hid (textX v1 z1 w h1 hp)
  generalize tx z1 = s at *
  clear h1 hp
  obtain ⟨r, hr⟩ : ∃ r, Lfc.sc 0 s = r := ⟨_, rfl⟩
  have hcnt := Lfc.sc_count s 0
  have hst := Lfc.sc_stands s s 0 0 (Nat.zero_le _) rfl (Nat.le_refl _)
  rw [hr] at hcnt hst
  have HL1 := Lib.hid (fun W => lexX s W (by omega) (by omega) r hr)
  obtain ⟨toks, e, n⟩ := r
  simp only at hcnt hst
  clear hr
  by_cases h0 : e = 0
  · subst h0
    have HST := Lib.hid hst
    clear hst
    go_enter Tryd.func9, Tryd.ntmps9
    go_wp2_with fail
    refine H1.out.mono ?_
    rintro e' w1 ⟨rfl, hbw1⟩
    go_wp2_with fail
    refine (HL1.out _).mono ?_
    rintro e' w2 ⟨v, rfl, hown, hbw2⟩
    have hta := TokAt.of_own hown
    obtain ⟨A, c, rfl, hc, hA⟩ := hta
    have HA := Lib.hid hA
    have b2 := hbw1.trans (hbw2.mono hbw1.size)
    clear hown hA hbw2 hbw1
    have hcl : toks.length ≤ 1200 := by omega
    go_wp2_with fail
    go_loopw [7, 8] (fun e i wr => ∃ k en : Nat, k ≤ toks.length ∧ i = .int .i64 k ∧ e = .int .i64 en ∧ en ≤ s.length ∧ Below w2.heap.size w2 wr ∧ Hid (Lfc.stands s en (toks.drop k))) (fun _ i _ => toks.length - (intOf i).toNat)
    case atStart => exact ⟨0, 0, by omega, rfl, rfl, by omega, Below.refl _ _, HST⟩
    case round =>
      obtain ⟨k, en, hk, rfl, rfl, hen, hbw, hstk⟩ := hrel
      by_cases hlt : k < toks.length
      · obtain ⟨b, o, rfl, hb, hcs⟩ := HA.out (by omega)
        obtain ⟨a0, a1, a2⟩ := hcs k toks[k] (List.getElem?_eq_getElem hlt)
        have a0' := (hbw.cell (p := ⟨b, _, none⟩) hb).trans a0
        have a1' := (hbw.cell (p := ⟨b, _, none⟩) hb).trans a1
        have a2' := (hbw.cell (p := ⟨b, _, none⟩) hb).trans a2
        have hs0 := hstk.out
        rw [List.drop_eq_getElem_cons hlt] at hs0
        obtain ⟨s1, s2, s3, s4, s5⟩ := hs0
        clear a0 a1 a2 hcs
        generalize hT : toks[k] = T at *
        have HT := Lib.hid hT
        clear hT
        have d1 : decide ((T.pos : Nat) < en) = false := by simp; omega
        by_cases h3 : T.kind = 3
        · have hk3 : (T.kind == 3) = true := by simp [h3]
          have hsp : Lfc.spT T = 37 :: T.text := by simp [Lfc.spT, h3]
          rw [hsp] at s2 s3 s4 s5
          have htl : T.text.length ≤ 19200 := by simp at s2; omega
          clear h3
          go_wp2_with fail
          generalize 37 :: T.text = U at *
          clear hsp
          have S5 := Lib.hid s5
          clear s5
          have hw2 : decide ((s.length : Int) < (T.pos : Int) + (U.length : Int)) = false := decide_eq_false (by omega)
          have hw3 : ((U.length : Int) == 0) = false := beq_eq_false_iff_ne.2 (by omega)
          have hw4 : (T.pos : Int) + (U.length : Int) ≤ (s.length : Int) := by omega
          have hw5 : ((T.pos : Int) + (U.length : Int)).toNat = T.pos + U.length := by omega
          have hw6 : 0 ≤ (T.pos : Int) + (U.length : Int) := by omega
          have hw7 : T.pos + U.length ≤ s.length := by omega
          have hw1 : IntKind.i64.wrap ((T.pos : Int) + (U.length : Int)) = (T.pos : Int) + (U.length : Int) := IntWalk.i64_in _ (by omega)
          go_quiet (fail)
          clear hw1 hw2 hw3 hw5
          go_wp2_with fail
          go_roundw
          case rel =>
            exact ⟨k + 1, T.pos + U.length, by omega, by go_num, by go_num, by omega, below_drewN hbw _, S5⟩
          case measure => simp [intOf]; omega
        · have hk3 : (T.kind == 3) = false := by simp [h3]
          have hsp : Lfc.spT T = T.text := by simp [Lfc.spT, h3]
          rw [hsp] at s2 s3 s4 s5
          clear h3
          go_wp2_with fail
          clear hsp
          have S5 := Lib.hid s5
          clear s5
          generalize T.text = U at *
          have hw2 : decide ((s.length : Int) < (T.pos : Int) + (U.length : Int)) = false := decide_eq_false (by omega)
          have hw3 : ((U.length : Int) == 0) = false := beq_eq_false_iff_ne.2 (by omega)
          have hw4 : (T.pos : Int) + (U.length : Int) ≤ (s.length : Int) := by omega
          have hw5 : ((T.pos : Int) + (U.length : Int)).toNat = T.pos + U.length := by omega
          have hw6 : 0 ≤ (T.pos : Int) + (U.length : Int) := by omega
          have hw7 : T.pos + U.length ≤ s.length := by omega
          have hw1 : IntKind.i64.wrap ((T.pos : Int) + (U.length : Int)) = (T.pos : Int) + (U.length : Int) := IntWalk.i64_in _ (by omega)
          go_quiet (fail)
          clear hw1 hw2 hw3 hw5
          go_wp2_with fail
          go_roundw
          case rel =>
            exact ⟨k + 1, T.pos + U.length, by omega, by go_num, by go_num, by omega, below_drewN hbw _, S5⟩
          case measure => simp [intOf]; omega
      · go_wp2_with fail
        refine (awake_any _).mono ?_
        rintro e' w3 ⟨rfl, hbw3⟩
        go_wp2_with fail
        go_ret
        have b3 := b2.trans (hbw.mono b2.size)
        exact ⟨rfl, b3.trans (hbw3.mono b3.size)⟩
  · have g1 : ((e : Int) != 0) = true := by simp [h0]
    clear hst h0
    go_enter Tryd.func9, Tryd.ntmps9
    go_wp2_with fail
    refine H1.out.mono ?_
    rintro e' w1 ⟨rfl, hbw1⟩
    go_wp2_with fail
    refine (HL1.out _).mono ?_
    rintro e' w2 ⟨v, rfl, hown, hbw2⟩
    go_wp2_with fail
    refine (awake_any _).mono ?_
    rintro e' w3 ⟨rfl, hbw3⟩
    go_wp2_with fail
    go_ret
    have b2 := hbw1.trans (hbw2.mono hbw1.size)
    exact ⟨rfl, b2.trans (hbw3.mono b2.size)⟩
end Go.Proofs.YtmdhkcefbkdkbaaDoor
