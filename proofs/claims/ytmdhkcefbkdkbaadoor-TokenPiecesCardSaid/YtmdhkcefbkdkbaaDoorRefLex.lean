/- The contract of the reference's Lex: it returns the tokens of the plain model. -/
import Derived.Test.YtmdhkcefbkdkbaaDoorTokLaw2
import Derived.Deep.DeepCutAuto
import Derived.Deep.CutBlock
import Derived.RegionTactic
namespace Go.Proofs.YtmdhkcefbkdkbaaDoor
open Go.RowKit

theorem nx_percent (l : List UInt8) (k : Nat) (h : k < l.length) (h37 : l[k].toNat = 37) : Lfc.nx (l.drop k) = Lfc.pc (l.drop (k + 1)) := by
  have e1 : l.drop k = l[k] :: l.drop (k + 1) := List.drop_eq_getElem_cons h
  rw [e1]
  simp only [Lfc.nx]
  rw [if_neg (by simp [Lfc.blankB, h37]), if_pos h37]
theorem ref_block_none (l : List UInt8) (k : Nat) (acc : List Lfc.Tok) (h : k + 1 < l.length) (h37 : l[k].toNat = 37) (h123 : l[k + 1].toNat = 123) (hc : Lfc.cmt 1 (l.drop (k + 2)) = none) : Lfc.lexR k (l.drop k) acc = ([], 11, k) := by
  have e2 : l.drop (k + 1) = l[k + 1] :: l.drop (k + 2) := List.drop_eq_getElem_cons h
  have hp : Lfc.pc (l.drop (k + 1)) = ⟨0, [], 0, 11⟩ := by rw [e2]; simp [Lfc.pc, h123, hc]
  rw [lexR_at l k acc (by omega), nx_percent l k (by omega) h37, hp]
  simp
theorem ref_block_some (l : List UInt8) (k : Nat) (acc : List Lfc.Tok) (r : List UInt8) (h : k + 1 < l.length) (h37 : l[k].toNat = 37) (h123 : l[k + 1].toNat = 123) (hc : Lfc.cmt 1 (l.drop (k + 2)) = some r) : Lfc.lexR k (l.drop k) acc = Lfc.lexR (l.length - r.length) (l.drop (l.length - r.length)) acc := by
  have e2 : l.drop (k + 1) = l[k + 1] :: l.drop (k + 2) := List.drop_eq_getElem_cons h
  have hl := Lfc.cmt_len _ _ (Nat.le_refl _) _ _ hc
  have hp : Lfc.pc (l.drop (k + 1)) = ⟨0, [], 2 + (l.drop (k + 2)).length - r.length, 0⟩ := by rw [e2]; simp [Lfc.pc, h123, hc]
  rw [List.length_drop] at hl hp
  rw [lexR_at l k acc (by omega), nx_percent l k (by omega) h37, hp]
  simp only [if_true, ne_eq, not_true, if_false]
  rw [show k + (2 + (l.length - (k + 2)) - r.length) = l.length - r.length by omega]
theorem ref_line (l : List UInt8) (k : Nat) (acc : List Lfc.Tok) (h : k < l.length) (h37 : l[k].toNat = 37) (h1 : ∀ h1 : k + 1 < l.length, ¬ l[k + 1].toNat = 123 ∧ Lfc.letterB l[k + 1] = false) :
    Lfc.lexR k (l.drop k) acc = Lfc.lexR (k + Lfc.runLen Lfc.notNlB (l.drop k)) (l.drop (k + Lfc.runLen Lfc.notNlB (l.drop k))) acc := by
  have hr : Lfc.runLen Lfc.notNlB (l.drop k) = Lfc.runLen Lfc.notNlB (l.drop (k + 1)) + 1 := by rw [runLen_drop _ l k h, if_pos (by simp [Lfc.notNlB, h37])]
  have hp : Lfc.pc (l.drop (k + 1)) = ⟨0, [], Lfc.runLen Lfc.notNlB (l.drop (k + 1)) + 1, 0⟩ := by
    by_cases hk : k + 1 < l.length
    · have e2 : l.drop (k + 1) = l[k + 1] :: l.drop (k + 2) := List.drop_eq_getElem_cons hk
      obtain ⟨h2, h3⟩ := h1 hk
      rw [e2]
      simp only [Lfc.pc]
      rw [if_neg h2, if_pos (by simp [Lfc.runLen, h3])]
    · rw [List.drop_eq_nil_of_le (by omega)]; simp [Lfc.pc, Lfc.runLen]
  rw [lexR_at l k acc h, nx_percent l k h h37, hp, hr]
  simp
theorem ref_dir (l : List UInt8) (k : Nat) (h : k + 1 < l.length) (h37 : l[k].toNat = 37) (hlet : Lfc.letterB l[k + 1] = true) :
    1 ≤ Lfc.runLen Lfc.letterB (l.drop (k + 1)) ∧ k + 1 + Lfc.runLen Lfc.letterB (l.drop (k + 1)) ≤ l.length ∧ ((l.drop (k + 1)).take (Lfc.runLen Lfc.letterB (l.drop (k + 1)))).length = Lfc.runLen Lfc.letterB (l.drop (k + 1)) ∧
    Lfc.nx (l.drop k) = if 64 < Lfc.runLen Lfc.letterB (l.drop (k + 1)) then ⟨0, [], 0, 12⟩ else ⟨3, (l.drop (k + 1)).take (Lfc.runLen Lfc.letterB (l.drop (k + 1))), Lfc.runLen Lfc.letterB (l.drop (k + 1)) + 1, 0⟩ := by
  have e2 : l.drop (k + 1) = l[k + 1] :: l.drop (k + 2) := List.drop_eq_getElem_cons h
  have h1 : 1 ≤ Lfc.runLen Lfc.letterB (l.drop (k + 1)) := by rw [e2, Lfc.runLen, if_pos hlet]; omega
  have h2 := Lfc.runLen_le Lfc.letterB (l.drop (k + 1))
  have hl := of_decide_eq_true hlet
  have h2' := h2
  rw [List.length_drop] at h2
  refine ⟨h1, by omega, by rw [List.length_take]; omega, ?_⟩
  rw [nx_percent l k (by omega) h37]
  have hp : ∀ x : List UInt8, x = l[k + 1] :: l.drop (k + 2) → 1 ≤ Lfc.runLen Lfc.letterB x → Lfc.pc x = if 64 < Lfc.runLen Lfc.letterB x then ⟨0, [], 0, 12⟩ else ⟨3, x.take (Lfc.runLen Lfc.letterB x), Lfc.runLen Lfc.letterB x + 1, 0⟩ := by
    intro x hx h1
    subst hx
    simp only [Lfc.pc]
    rw [if_neg (by omega), if_neg (by omega)]
  exact hp _ e2 h1
theorem ref_name (l : List UInt8) (k : Nat) (h : k < l.length) (hb : Lfc.blankB l[k] = false) (h37 : ¬ l[k].toNat = 37) (hn : Lfc.nameB l[k] = true) :
    1 ≤ Lfc.runLen Lfc.nameB (l.drop k) ∧ k + Lfc.runLen Lfc.nameB (l.drop k) ≤ l.length ∧ ((l.drop k).take (Lfc.runLen Lfc.nameB (l.drop k))).length = Lfc.runLen Lfc.nameB (l.drop k) ∧
    Lfc.nx (l.drop k) = if 64 < Lfc.runLen Lfc.nameB (l.drop k) then ⟨0, [], 0, 12⟩ else ⟨if Lfc.reservedB ((l.drop k).take (Lfc.runLen Lfc.nameB (l.drop k))) then 2 else 1, (l.drop k).take (Lfc.runLen Lfc.nameB (l.drop k)), Lfc.runLen Lfc.nameB (l.drop k), 0⟩ := by
  have e1 : l.drop k = l[k] :: l.drop (k + 1) := List.drop_eq_getElem_cons h
  have h1 : 1 ≤ Lfc.runLen Lfc.nameB (l.drop k) := by rw [e1, Lfc.runLen, if_pos hn]; omega
  have h2 := Lfc.runLen_le Lfc.nameB (l.drop k)
  have h2' := h2
  rw [List.length_drop] at h2
  have hl : ((l.drop k).take (Lfc.runLen Lfc.nameB (l.drop k))).length = Lfc.runLen Lfc.nameB (l.drop k) := by rw [List.length_take]; omega
  refine ⟨h1, by omega, hl, ?_⟩
  have hx : Lfc.nx (l.drop k) = Lfc.nm ((l.drop k).take (Lfc.runLen Lfc.nameB (l.drop k))) := by rw [e1]; simp only [Lfc.nx]; rw [hb, if_neg (by simp), if_neg h37, hn, if_pos rfl]
  rw [hx]
  unfold Lfc.nm
  rw [hl]

set_option maxRecDepth 100000 in
set_option maxHeartbeats 8000000 in
theorem rLex_any (l : List UInt8) (w : World) (hmax : l.length ≤ 9223372036854775807) : Calls Tryd.prog 41 #[S l] w (LexPost (Lfc.lex l) w) := by
  by_cases hlong : 65536 < l.length
  · have h0 : Lfc.lex l = ([], 12, 0) := by rw [Lfc.lex_eq, if_pos hlong]
    rw [h0]
    clear h0
    go_enter Tryd.func41, Tryd.ntmps41
    go_wp2_with fail
    go_ret3
    exact ⟨_, rfl, own_nil _ _ _ _, Below.refl _ _⟩
  · have h0 : Lfc.lex l = Lfc.lexR 0 (l.drop 0) [] := by rw [Lfc.lex_eq, if_neg hlong]; rfl
    rw [h0]
    clear h0
    obtain ⟨i0, hi, hz0, hz1, hz2⟩ := info_parts tokInfo
    generalize hR : Lfc.lexR 0 (l.drop 0) [] = R
    have HR := Lib.hid hR
    clear hR
    have hl : l.length ≤ 65536 := by omega
    go_enter Tryd.func41, Tryd.ntmps41
    go_wp2_with fail
    go_loopw [5, 6] (fun o i wr => ∃ (k : Nat) (acc : List Lfc.Tok), k ≤ l.length ∧ i = .int .i64 k ∧ acc.length ≤ k ∧ wr.ownsRow w.heap.size 35 3 o acc.length (tokCells acc) ∧ Below w.heap.size w wr ∧ Hid (Lfc.lexR k (l.drop k) acc = R)) (fun _ i _ => l.length - (intOf i).toNat)
    case atStart => exact ⟨0, [], by omega, rfl, by simp, own_nil _ _ _ _, Below.refl _ _, HR⟩
    case round =>
      obtain ⟨k, acc, hk, rfl, hak, hown, hbw, hr⟩ := hrel
      obtain ⟨A, c, rfl⟩ := own_form hown
      by_cases hlt : k < l.length
      · have hx := lexR_at l k acc hlt
        have hlen := nx_at l k hlt
        have e1 : l.drop k = l[k] :: l.drop (k + 1) := List.drop_eq_getElem_cons hlt
        cases hb : Lfc.blankB l[k]
        · have Hb := Lib.hid hb
          clear hb
          go_wp2_with fail
          refine (rBlank_any _ _).mono ?_
          rintro e w1 ⟨rfl, rfl⟩
          rw [Hb.out]
          go_upto_block 2 with fail
          go_cut [6] (fun s6 wx => ∃ (kd : Int) (tx : List UInt8) (m n : Nat), s6 = .int .i64 ((k + m : Nat) : Int) ∧ 1 ≤ m ∧ k + m ≤ l.length ∧ tx.length ≤ 65536 ∧ wx = (wr.alloc (Obj.cells #[.int .i64 kd, S tx, .int .i64 k] 35)).drewN n ∧
            Hid (kd ≠ 0 ∧ ((64 < tx.length ∧ Lfc.nx (l.drop k) = ⟨0, [], 0, 12⟩) ∨ (tx.length ≤ 64 ∧ Lfc.nx (l.drop k) = ⟨kd, tx, m, 0⟩))))
          case first =>
            clear hx hlen
            by_cases hs : Lfc.specialB l[k] = true
            · have hns := Lfc.special_not' l[k] hs
              as_aux_lemma =>
                have hX : Lfc.nx (l.drop k) = ⟨2, [l[k]], 1, 0⟩ := by rw [e1]; simp only [Lfc.nx]; rw [Hb.out, if_neg (by simp), if_neg hns.2.1, hns.2.2, if_neg (by simp), hs, if_pos rfl]
                have HX := Lib.hid hX
                have ht1 : (l.drop k).take 1 = [l[k]] := by rw [e1]; rfl
                clear e1 hX hns
                have HT1 := Lib.hid ht1
                clear ht1
                go_wp2_with fail
                refine (rSpecial_any _ _).mono ?_
                rintro e w1 ⟨rfl, rfl⟩
                rw [hs]
                go_wp2_with fail
                go_region
                go_wp2_with fail
                go_meet
                exact ⟨2, [l[k]], 1, 1, by go_num, by omega, by omega, by simp, by rw [← HT1.out]; rfl, Lib.hid ⟨by decide, .inr ⟨by simp, HX.out⟩⟩⟩
            · have hs' : Lfc.specialB l[k] = false := by simpa using hs
              clear hs
              by_cases h37 : l[k].toNat = 37
              · have g37 : ((l[k].toNat : Int) == 37) = true := by simp; omega
                have hpc : Lfc.nx (l.drop k) = Lfc.pc (l.drop (k + 1)) := by rw [e1]; simp only [Lfc.nx]; rw [Hb.out, if_neg (by simp), if_pos h37]
                have HPC := Lib.hid hpc
                have H37 := Lib.hid h37
                clear e1 hpc h37
                by_cases hk1 : k + 1 < l.length
                · have g2 : decide ((k : Int) + 1 < (l.length : Int)) = true := decide_eq_true (by omega)
                  have e2 : l.drop (k + 1) = l[k + 1] :: l.drop (k + 2) := List.drop_eq_getElem_cons hk1
                  by_cases h123 : l[k + 1].toNat = 123
                  · have g3 : ((l[k + 1].toNat : Int) == 123) = true := by simp; omega
                    as_aux_lemma =>
                      have hcm := cmt_drop2 0 l k hk1
                      rw [if_pos ⟨H37.out, h123⟩] at hcm
                      have hn := ref_block_none l k acc hk1 H37.out h123
                      have hsm := fun r => ref_block_some l k acc r hk1 H37.out h123
                      have hlen2 := fun r => Lfc.cmt_len _ (l.drop (k + 2)) (Nat.le_refl _) 1 r
                      rw [List.length_drop] at hlen2
                      rw [Nat.zero_add] at hcm
                      generalize hC : Lfc.cmt 1 (l.drop (k + 2)) = C at *
                      have HN := Lib.hid hn
                      have HS := Lib.hid hsm
                      have HL := Lib.hid hlen2
                      have HCM := Lib.hid hcm
                      have H123 := Lib.hid h123
                      clear hn hsm hlen2 hcm hC e2 h123 HPC
                      go_wp2_with fail
                      refine (rSpecial_any _ _).mono ?_
                      rintro e w1 ⟨rfl, rfl⟩
                      rw [hs']
                      go_wp2_with fail
                      go_loop [6, 10, 11] (fun i d dn => (∃ j dd : Nat, j ≤ l.length ∧ k ≤ j ∧ i = .int .i64 j ∧ d = .int .i64 dd ∧ dd ≤ j ∧ dn = .bool false ∧ Hid (Lfc.cmt dd (l.drop j) = C) ∧ Hid (dd = 0 → j = k)) ∨ (∃ (r : List UInt8) (v : Value), i = .int .i64 ((l.length - r.length : Nat) : Int) ∧ d = v ∧ dn = .bool true ∧ r.length + k + 1 ≤ l.length ∧ Hid (C = some r))) (fun i _ _ => l.length - (intOf i).toNat)
                      case atStart => exact .inl ⟨k, 0, by omega, by omega, rfl, rfl, by omega, rfl, HCM, Lib.hid fun _ => rfl⟩
                      case round =>
                        rcases hrel with ⟨j, dd, hj, hkj, rfl, rfl, hdj, rfl, hc, hz⟩ | ⟨r, v, rfl, rfl, rfl, hrl, hc⟩
                        · by_cases hjl : j < l.length
                          · have gj : decide (j < l.length) = true := decide_eq_true (by omega)
                            by_cases a37 : l[j].toNat = 37
                            · have g1 : ((l[j].toNat : Int) == 37) = true := by simp; omega
                              have g4 : ((l[j].toNat : Int) == 125) = false := by simp; omega
                              by_cases hj1 : j + 1 < l.length
                              · have gj1 : decide ((j : Int) + 1 < (l.length : Int)) = true := decide_eq_true (by omega)
                                have hstep := cmt_drop2 dd l j hj1
                                by_cases b123 : l[j + 1].toNat = 123
                                · have g6 : ((l[j + 1].toNat : Int) == 123) = true := by simp; omega
                                  rw [if_pos ⟨a37, b123⟩] at hstep
                                  have HC' := Lib.hid hstep
                                  clear hstep
                                  go_wp2_with fail
                                  go_round
                                  case rel => exact .inl ⟨j + 2, dd + 1, by omega, by omega, by go_num, by go_num, by omega, rfl, Lib.hid (by rw [← hc.out, HC'.out]), Lib.hid fun h => by omega⟩
                                  case measure => simp [intOf]; omega
                                · have g6 : ((l[j + 1].toNat : Int) == 123) = false := by simp; omega
                                  rw [if_neg (by omega), if_neg (by omega)] at hstep
                                  have hdd : ¬ dd = 0 := fun h0 => by
                                    have := hz.out h0
                                    subst this
                                    first | omega | (have := H37.out; have := H123.out; omega)
                                  have HC' := Lib.hid hstep
                                  clear hstep
                                  go_wp2_with fail
                                  go_round
                                  case rel => exact .inl ⟨j + 1, dd, by omega, by omega, by go_num, rfl, by omega, rfl, Lib.hid (by rw [← hc.out, HC'.out]), Lib.hid fun h => by omega⟩
                                  case measure => simp [intOf]; omega
                              · have gj1 : decide ((j : Int) + 1 < (l.length : Int)) = false := decide_eq_false (by omega)
                                have hstep : Lfc.cmt dd (l.drop j) = Lfc.cmt dd (l.drop (j + 1)) := by rw [cmt_short dd l j hj1, cmt_short dd l (j + 1) (by omega)]
                                have hdd : ¬ dd = 0 := fun h0 => by
                                  have := hz.out h0
                                  subst this
                                  first | omega | (have := H37.out; have := H123.out; omega)
                                have HC' := Lib.hid hstep
                                clear hstep
                                go_wp2_with fail
                                go_round
                                case rel => exact .inl ⟨j + 1, dd, by omega, by omega, by go_num, rfl, by omega, rfl, Lib.hid (by rw [← hc.out, HC'.out]), Lib.hid fun h => by omega⟩
                                case measure => simp [intOf]; omega
                            · have g1 : ((l[j].toNat : Int) == 37) = false := by simp; omega
                              by_cases a125 : l[j].toNat = 125
                              · have g4 : ((l[j].toNat : Int) == 125) = true := by simp; omega
                                by_cases hj1 : j + 1 < l.length
                                · have gj1 : decide ((j : Int) + 1 < (l.length : Int)) = true := decide_eq_true (by omega)
                                  have hstep := cmt_drop2 dd l j hj1
                                  by_cases b37 : l[j + 1].toNat = 37
                                  · have g6 : ((l[j + 1].toNat : Int) == 37) = true := by simp; omega
                                    rw [if_neg (by omega), if_pos ⟨a125, b37⟩] at hstep
                                    have hdd : ¬ dd = 0 := fun h0 => by
                                      have := hz.out h0
                                      subst this
                                      have := H37.out
                                      omega
                                    by_cases d1 : dd ≤ 1
                                    · rw [if_pos d1] at hstep
                                      obtain rfl : dd = 1 := by omega
                                      have HC' := Lib.hid hstep
                                      clear hstep
                                      go_wp2_with fail
                                      go_round
                                      case rel => exact .inr ⟨l.drop (j + 2), _, by rw [List.length_drop]; go_num, rfl, rfl, by rw [List.length_drop]; omega, Lib.hid (by rw [← hc.out, HC'.out])⟩
                                      case measure => simp [intOf]; omega
                                    · rw [if_neg d1] at hstep
                                      have gd : ((dd : Int) - 1 == 0) = false := by simp; omega
                                      have HC' := Lib.hid hstep
                                      clear hstep
                                      go_wp2_with fail
                                      go_round
                                      case rel => exact .inl ⟨j + 2, dd - 1, by omega, by omega, by go_num, by go_num, by omega, rfl, Lib.hid (by rw [← hc.out, HC'.out]), Lib.hid fun h => by omega⟩
                                      case measure => simp [intOf]; omega
                                  · have g6 : ((l[j + 1].toNat : Int) == 37) = false := by simp; omega
                                    rw [if_neg (by omega), if_neg (by omega)] at hstep
                                    have hdd : ¬ dd = 0 := fun h0 => by
                                      have := hz.out h0
                                      subst this
                                      first | omega | (have := H37.out; have := H123.out; omega)
                                    have HC' := Lib.hid hstep
                                    clear hstep
                                    go_wp2_with fail
                                    go_round
                                    case rel => exact .inl ⟨j + 1, dd, by omega, by omega, by go_num, rfl, by omega, rfl, Lib.hid (by rw [← hc.out, HC'.out]), Lib.hid fun h => by omega⟩
                                    case measure => simp [intOf]; omega
                                · have gj1 : decide ((j : Int) + 1 < (l.length : Int)) = false := decide_eq_false (by omega)
                                  have hstep : Lfc.cmt dd (l.drop j) = Lfc.cmt dd (l.drop (j + 1)) := by rw [cmt_short dd l j hj1, cmt_short dd l (j + 1) (by omega)]
                                  have hdd : ¬ dd = 0 := fun h0 => by
                                    have := hz.out h0
                                    subst this
                                    first | omega | (have := H37.out; have := H123.out; omega)
                                  have HC' := Lib.hid hstep
                                  clear hstep
                                  go_wp2_with fail
                                  go_round
                                  case rel => exact .inl ⟨j + 1, dd, by omega, by omega, by go_num, rfl, by omega, rfl, Lib.hid (by rw [← hc.out, HC'.out]), Lib.hid fun h => by omega⟩
                                  case measure => simp [intOf]; omega
                              · have g4 : ((l[j].toNat : Int) == 125) = false := by simp; omega
                                have hstep : Lfc.cmt dd (l.drop j) = Lfc.cmt dd (l.drop (j + 1)) := by
                                  by_cases hj1 : j + 1 < l.length
                                  · rw [cmt_drop2 dd l j hj1, if_neg (by omega), if_neg (by omega)]
                                  · rw [cmt_short dd l j hj1, cmt_short dd l (j + 1) (by omega)]
                                have hdd : ¬ dd = 0 := fun h0 => by
                                  have := hz.out h0
                                  subst this
                                  first | omega | (have := H37.out; have := H123.out; omega)
                                have HC' := Lib.hid hstep
                                clear hstep
                                go_wp2_with fail
                                go_round
                                case rel => exact .inl ⟨j + 1, dd, by omega, by omega, by go_num, rfl, by omega, rfl, Lib.hid (by rw [← hc.out, HC'.out]), Lib.hid fun h => by omega⟩
                                case measure => simp [intOf]; omega
                          · have hjn : C = none := by rw [← hc.out, List.drop_eq_nil_of_le (by omega)]; simp [Lfc.cmt]
                            have HJ := Lib.hid hjn
                            clear hjn
                            go_wp2_with fail
                            go_ret3
                            rw [← hr.out, HN.out HJ.out]
                            exact ⟨_, rfl, own_nil _ _ _ _, hbw.alloc hbw.size _⟩
                        · go_wp2_with fail
                          all_goals
                            go_roundw
                            case rel => exact ⟨l.length - r.length, acc, by omega, rfl, by omega, hown.alloc _, hbw.alloc hbw.size _, Lib.hid (by rw [← hr.out, HS.out r hc.out])⟩
                            case measure => simp [intOf]; omega
                  · have g3 : ((l[k + 1].toNat : Int) == 123) = false := by simp; omega
                    cases hlet : Lfc.letterB l[k + 1]
                    · as_aux_lemma =>
                        have hg : decide (97 ≤ (l[k + 1].toNat : Int)) = false ∨ (decide (97 ≤ (l[k + 1].toNat : Int)) = true ∧ decide ((l[k + 1].toNat : Int) ≤ 122) = false) := by
                          have := of_decide_eq_false hlet
                          by_cases h : 97 ≤ l[k + 1].toNat
                          · exact .inr ⟨decide_eq_true (by omega), decide_eq_false (by omega)⟩
                          · exact .inl (decide_eq_false (by omega))
                        rcases hg with ga | ⟨ga, gb⟩
                        all_goals
                          have hln := ref_line l k acc hlt H37.out (fun _ => ⟨h123, hlet⟩)
                          have hrl := Lfc.runLen_le Lfc.notNlB (l.drop k)
                          rw [List.length_drop] at hrl
                          have hr1 : 1 ≤ Lfc.runLen Lfc.notNlB (l.drop k) := by rw [runLen_drop _ l k hlt, if_pos (by simp [Lfc.notNlB, H37.out])]; omega
                          generalize hM : Lfc.runLen Lfc.notNlB (l.drop k) = m at *
                          have HM := Lib.hid hM
                          have HLN := Lib.hid hln
                          clear hM hln HPC
                          go_wp2_with fail
                          refine (rSpecial_any _ _).mono ?_
                          rintro e w1 ⟨rfl, rfl⟩
                          rw [hs']
                          go_wp2_with fail
                          go_loop [6] (fun i => ∃ j : Nat, k ≤ j ∧ j ≤ l.length ∧ i = .int .i64 j ∧ Hid (j + Lfc.runLen Lfc.notNlB (l.drop j) = k + m)) (fun i => l.length - (intOf i).toNat)
                          case atStart => exact ⟨k, by omega, by omega, rfl, Lib.hid (by rw [HM.out])⟩
                          case round =>
                            obtain ⟨j, hkj, hj, rfl, hjm⟩ := hrel
                            by_cases hjl : j < l.length
                            · have hd := runLen_drop Lfc.notNlB l j hjl
                              by_cases h10 : l[j].toNat = 10
                              · have g10 : ((l[j].toNat : Int) != 10) = false := by simp; omega
                                rw [if_neg (by simp [Lfc.notNlB, h10])] at hd
                                have hjk : j = k + m := by have := hjm.out; omega
                                clear hd h10
                                subst hjk
                                go_wp2_with fail
                                all_goals
                                  go_roundw
                                  case rel => exact ⟨k + m, acc, by omega, by go_num, by omega, hown.alloc _, hbw.alloc hbw.size _, Lib.hid (by rw [← hr.out, HLN.out])⟩
                                  case measure => simp [intOf]; omega
                              · have g10 : ((l[j].toNat : Int) != 10) = true := by simp; omega
                                rw [if_pos (by simp [Lfc.notNlB, h10])] at hd
                                have HD := Lib.hid hd
                                clear hd h10
                                go_wp2_with fail
                                go_round
                                case rel => exact ⟨j + 1, by omega, by omega, by go_num, Lib.hid (by have := HD.out; have := hjm.out; omega)⟩
                                case measure => simp [intOf]; omega
                            · have hjk : j = k + m := by
                                have := hjm.out
                                rw [List.drop_eq_nil_of_le (by omega)] at this
                                simpa [Lfc.runLen] using this
                              subst hjk
                              go_wp2_with fail
                              go_roundw
                              case rel => exact ⟨k + m, acc, by omega, by go_num, by omega, hown.alloc _, hbw.alloc hbw.size _, Lib.hid (by rw [← hr.out, HLN.out])⟩
                              case measure => simp [intOf]; omega
                    · as_aux_lemma =>
                        have ga : decide (97 ≤ (l[k + 1].toNat : Int)) = true := decide_eq_true (by have := of_decide_eq_true hlet; omega)
                        have gb : decide ((l[k + 1].toNat : Int) ≤ 122) = true := decide_eq_true (by have := of_decide_eq_true hlet; omega)
                        obtain ⟨hn1, hn2, hn3, hX⟩ := ref_dir l k hk1 H37.out hlet
                        generalize hN : Lfc.runLen Lfc.letterB (l.drop (k + 1)) = n at *
                        have HN := Lib.hid hN
                        have HX := Lib.hid hX
                        have HN3 := Lib.hid hn3
                        clear hN hX hn3 e2 HPC hlet h123
                        go_wp2_with fail
                        refine (rSpecial_any _ _).mono ?_
                        rintro e w1 ⟨rfl, rfl⟩
                        rw [hs']
                        go_wp2_with fail
                        go_loop [6] (fun i => ∃ j : Nat, k + 1 ≤ j ∧ j ≤ l.length ∧ i = .int .i64 j ∧ Hid (j + Lfc.runLen Lfc.letterB (l.drop j) = k + 1 + n)) (fun i => l.length - (intOf i).toNat)
                        case atStart => exact ⟨k + 1, by omega, by omega, by go_num, Lib.hid (by rw [HN.out])⟩
                        case round =>
                          obtain ⟨j, hkj, hj, rfl, hjm⟩ := hrel
                          by_cases hjl : j < l.length
                          · have hd := runLen_drop Lfc.letterB l j hjl
                            cases hlj : Lfc.letterB l[j]
                            · rw [hlj, if_neg (by simp)] at hd
                              have hjk : j = k + 1 + n := by have := hjm.out; omega
                              have hg : decide (97 ≤ (l[j].toNat : Int)) = false ∨ (decide (97 ≤ (l[j].toNat : Int)) = true ∧ decide ((l[j].toNat : Int) ≤ 122) = false) := by
                                have := of_decide_eq_false hlj
                                by_cases h : 97 ≤ l[j].toNat
                                · exact .inr ⟨decide_eq_true (by omega), decide_eq_false (by omega)⟩
                                · exact .inl (decide_eq_false (by omega))
                              clear hd hlj
                              subst hjk
                              rcases hg with gc | ⟨gc, gd⟩
                              all_goals
                                go_wp2_with fail
                                go_region
                                go_wp2_with fail
                                go_meet
                                exact ⟨3, (l.drop (k + 1)).take n, n + 1, 1, by go_num, by omega, by omega, by rw [HN3.out]; omega, rfl, Lib.hid ⟨by decide, by
                                  rw [HN3.out, HX.out]
                                  by_cases h : 64 < n
                                  · exact .inl ⟨h, if_pos h⟩
                                  · exact .inr ⟨by omega, if_neg h⟩⟩⟩
                            · rw [hlj, if_pos rfl] at hd
                              have gc : decide (97 ≤ (l[j].toNat : Int)) = true := decide_eq_true (by have := of_decide_eq_true hlj; omega)
                              have gd : decide ((l[j].toNat : Int) ≤ 122) = true := decide_eq_true (by have := of_decide_eq_true hlj; omega)
                              have HD := Lib.hid hd
                              clear hd hlj
                              go_wp2_with fail
                              go_round
                              case rel => exact ⟨j + 1, by omega, by omega, by go_num, Lib.hid (by have := HD.out; have := hjm.out; omega)⟩
                              case measure => simp [intOf]; omega
                          · have hjk : j = k + 1 + n := by
                              have := hjm.out
                              rw [List.drop_eq_nil_of_le (by omega)] at this
                              simpa [Lfc.runLen] using this
                            subst hjk
                            go_wp2_with fail
                            go_region
                            go_wp2_with fail
                            go_meet
                            exact ⟨3, (l.drop (k + 1)).take n, n + 1, 1, by go_num, by omega, by omega, by rw [HN3.out]; omega, rfl, Lib.hid ⟨by decide, by
                              rw [HN3.out, HX.out]
                              by_cases h : 64 < n
                              · exact .inl ⟨h, if_pos h⟩
                              · exact .inr ⟨by omega, if_neg h⟩⟩⟩
                · as_aux_lemma =>
                    have g2 : decide ((k : Int) + 1 < (l.length : Int)) = false := decide_eq_false (by omega)
                    have hln := ref_line l k acc hlt H37.out (fun h => absurd h hk1)
                    have hrl := Lfc.runLen_le Lfc.notNlB (l.drop k)
                    rw [List.length_drop] at hrl
                    have hr1 : 1 ≤ Lfc.runLen Lfc.notNlB (l.drop k) := by rw [runLen_drop _ l k hlt, if_pos (by simp [Lfc.notNlB, H37.out])]; omega
                    generalize hM : Lfc.runLen Lfc.notNlB (l.drop k) = m at *
                    have HM := Lib.hid hM
                    have HLN := Lib.hid hln
                    clear hM hln HPC
                    go_wp2_with fail
                    refine (rSpecial_any _ _).mono ?_
                    rintro e w1 ⟨rfl, rfl⟩
                    rw [hs']
                    go_wp2_with fail
                    go_loop [6] (fun i => ∃ j : Nat, k ≤ j ∧ j ≤ l.length ∧ i = .int .i64 j ∧ Hid (j + Lfc.runLen Lfc.notNlB (l.drop j) = k + m)) (fun i => l.length - (intOf i).toNat)
                    case atStart => exact ⟨k, by omega, by omega, rfl, Lib.hid (by rw [HM.out])⟩
                    case round =>
                      obtain ⟨j, hkj, hj, rfl, hjm⟩ := hrel
                      by_cases hjl : j < l.length
                      · have hd := runLen_drop Lfc.notNlB l j hjl
                        by_cases h10 : l[j].toNat = 10
                        · have g10 : ((l[j].toNat : Int) != 10) = false := by simp; omega
                          rw [if_neg (by simp [Lfc.notNlB, h10])] at hd
                          have hjk : j = k + m := by have := hjm.out; omega
                          clear hd h10
                          subst hjk
                          go_wp2_with fail
                          all_goals
                            go_roundw
                            case rel => exact ⟨k + m, acc, by omega, by go_num, by omega, hown.alloc _, hbw.alloc hbw.size _, Lib.hid (by rw [← hr.out, HLN.out])⟩
                            case measure => simp [intOf]; omega
                        · have g10 : ((l[j].toNat : Int) != 10) = true := by simp; omega
                          rw [if_pos (by simp [Lfc.notNlB, h10])] at hd
                          have HD := Lib.hid hd
                          clear hd h10
                          go_wp2_with fail
                          go_round
                          case rel => exact ⟨j + 1, by omega, by omega, by go_num, Lib.hid (by have := HD.out; have := hjm.out; omega)⟩
                          case measure => simp [intOf]; omega
                      · have hjk : j = k + m := by
                          have := hjm.out
                          rw [List.drop_eq_nil_of_le (by omega)] at this
                          simpa [Lfc.runLen] using this
                        subst hjk
                        go_wp2_with fail
                        go_roundw
                        case rel => exact ⟨k + m, acc, by omega, by go_num, by omega, hown.alloc _, hbw.alloc hbw.size _, Lib.hid (by rw [← hr.out, HLN.out])⟩
                        case measure => simp [intOf]; omega
              · have g37 : ((l[k].toNat : Int) == 37) = false := by simp; omega
                cases hn : Lfc.nameB l[k]
                · as_aux_lemma =>
                    have hX : Lfc.nx (l.drop k) = ⟨0, [], 0, 10⟩ := by rw [e1]; simp only [Lfc.nx]; rw [Hb.out, if_neg (by simp), if_neg h37, hn, if_neg (by simp), hs', if_neg (by simp)]
                    have hx := lexR_at l k acc hlt
                    rw [hX, if_pos (by simp)] at hx
                    have HX := Lib.hid hx
                    clear hX hx e1 h37
                    go_wp2_with fail
                    refine (rSpecial_any _ _).mono ?_
                    rintro e w1 ⟨rfl, rfl⟩
                    rw [hs']
                    go_wp2_with fail
                    refine (rNameByte_any _ _).mono ?_
                    rintro e w1 ⟨rfl, rfl⟩
                    rw [hn]
                    go_wp2_with fail
                    go_ret3
                    rw [← hr.out, HX.out]
                    exact ⟨_, rfl, own_nil _ _ _ _, hbw.alloc hbw.size _⟩
                · as_aux_lemma =>
                    obtain ⟨hn1, hn2, hn3, hX⟩ := ref_name l k hlt Hb.out h37 hn
                    generalize hN : Lfc.runLen Lfc.nameB (l.drop k) = n at *
                    have HN := Lib.hid hN
                    have HX := Lib.hid hX
                    have HN3 := Lib.hid hn3
                    have HNM := Lib.hid hn
                    generalize hRS : Lfc.reservedB ((l.drop k).take n) = rs at *
                    have HRS := Lib.hid hRS
                    clear hN hX hn3 e1 h37 hn hRS
                    go_wp2_with fail
                    refine (rSpecial_any _ _).mono ?_
                    rintro e w1 ⟨rfl, rfl⟩
                    rw [hs']
                    go_wp2_with fail
                    refine (rNameByte_any _ _).mono ?_
                    rintro e w1 ⟨rfl, rfl⟩
                    rw [HNM.out]
                    go_wp2_with fail
                    go_loop [6] (fun i => ∃ j : Nat, k ≤ j ∧ j ≤ l.length ∧ i = .int .i64 j ∧ Hid (j + Lfc.runLen Lfc.nameB (l.drop j) = k + n)) (fun i => l.length - (intOf i).toNat)
                    case atStart => exact ⟨k, by omega, by omega, rfl, Lib.hid (by rw [HN.out])⟩
                    case round =>
                      obtain ⟨j, hkj, hj, rfl, hjm⟩ := hrel
                      by_cases hjl : j < l.length
                      · have hd := runLen_drop Lfc.nameB l j hjl
                        cases hlj : Lfc.nameB l[j]
                        · rw [hlj, if_neg (by simp)] at hd
                          have hjk : j = k + n := by have := hjm.out; omega
                          have HLJ := Lib.hid hlj
                          clear hd hlj
                          subst hjk
                          go_wp2_with fail
                          refine (rNameByte_any _ _).mono ?_
                          rintro e w1 ⟨rfl, rfl⟩
                          rw [HLJ.out]
                          cases rs
                          · go_wp2_with fail
                            go_region
                            go_wp2_with fail
                            refine (rReserved_any _ _).mono ?_
                            rintro e w1 ⟨rfl, rfl⟩
                            rw [HRS.out]
                            go_wp2_with fail
                            go_meet
                            exact ⟨1, (l.drop k).take n, n, 1, by go_num, by omega, by omega, by rw [HN3.out]; omega, rfl, Lib.hid ⟨by decide, by
                              rw [HN3.out, HX.out]
                              by_cases h : 64 < n
                              · exact .inl ⟨h, if_pos h⟩
                              · exact .inr ⟨by omega, by rw [if_neg h]; rfl⟩⟩⟩
                          · go_wp2_with fail
                            go_region
                            go_wp2_with fail
                            refine (rReserved_any _ _).mono ?_
                            rintro e w1 ⟨rfl, rfl⟩
                            rw [HRS.out]
                            go_wp2_with fail
                            go_meet
                            exact ⟨2, (l.drop k).take n, n, 1, by go_num, by omega, by omega, by rw [HN3.out]; omega, rfl, Lib.hid ⟨by decide, by
                              rw [HN3.out, HX.out]
                              by_cases h : 64 < n
                              · exact .inl ⟨h, if_pos h⟩
                              · exact .inr ⟨by omega, by rw [if_neg h]; rfl⟩⟩⟩
                        · rw [hlj, if_pos rfl] at hd
                          have HD := Lib.hid hd
                          have HLJ := Lib.hid hlj
                          clear hd hlj
                          go_wp2_with fail
                          refine (rNameByte_any _ _).mono ?_
                          rintro e w1 ⟨rfl, rfl⟩
                          rw [HLJ.out]
                          go_wp2_with fail
                          go_round
                          case rel => exact ⟨j + 1, by omega, by omega, by go_num, Lib.hid (by have := HD.out; have := hjm.out; omega)⟩
                          case measure => simp [intOf]; omega
                      · have hjk : j = k + n := by
                          have := hjm.out
                          rw [List.drop_eq_nil_of_le (by omega)] at this
                          simpa [Lfc.runLen] using this
                        subst hjk
                        cases rs
                        · go_wp2_with fail
                          go_region
                          go_wp2_with fail
                          refine (rReserved_any _ _).mono ?_
                          rintro e w1 ⟨rfl, rfl⟩
                          rw [HRS.out]
                          go_wp2_with fail
                          go_meet
                          exact ⟨1, (l.drop k).take n, n, 1, by go_num, by omega, by omega, by rw [HN3.out]; omega, rfl, Lib.hid ⟨by decide, by
                            rw [HN3.out, HX.out]
                            by_cases h : 64 < n
                            · exact .inl ⟨h, if_pos h⟩
                            · exact .inr ⟨by omega, by rw [if_neg h]; rfl⟩⟩⟩
                        · go_wp2_with fail
                          go_region
                          go_wp2_with fail
                          refine (rReserved_any _ _).mono ?_
                          rintro e w1 ⟨rfl, rfl⟩
                          rw [HRS.out]
                          go_wp2_with fail
                          go_meet
                          exact ⟨2, (l.drop k).take n, n, 1, by go_num, by omega, by omega, by rw [HN3.out]; omega, rfl, Lib.hid ⟨by decide, by
                            rw [HN3.out, HX.out]
                            by_cases h : 64 < n
                            · exact .inl ⟨h, if_pos h⟩
                            · exact .inr ⟨by omega, by rw [if_neg h]; rfl⟩⟩⟩
          case rest =>
            obtain ⟨kd, tx, m, nd, rfl, hm1, hm2, htx, rfl, hcut⟩ := hcut
            have hkd := hcut.out.1
            clear e1
            by_cases h64 : 64 < tx.length
            · have hX : Lfc.nx (l.drop k) = ⟨0, [], 0, 12⟩ := by
                rcases hcut.out.2 with ⟨_, h⟩ | ⟨h, _⟩
                · exact h
                · omega
              rw [hX, if_pos (by simp)] at hx
              have Hx := Lib.hid hx
              clear hx hlen hX hcut hkd
              as_aux_lemma =>
                go_wp2_with fail
                go_ret3
                rw [← hr.out, Hx.out]
                exact ⟨_, rfl, own_nil _ _ _ _, below_drewN (hbw.alloc hbw.size _) _⟩
            · have hX : Lfc.nx (l.drop k) = ⟨kd, tx, m, 0⟩ := by
                rcases hcut.out.2 with ⟨h, _⟩ | ⟨_, h⟩
                · omega
                · exact h
              rw [hX, if_neg (by simp), if_neg hkd] at hx
              clear hlen hX hcut hkd
              by_cases hm : acc.length = 20000
              · rw [if_pos hm] at hx
                have hm1 : ((acc.length : Int) == 20000) = true := by simp; omega
                as_aux_lemma =>
                  have Hx := Lib.hid hx
                  clear hx hm
                  go_wp2_with fail
                  go_ret3
                  rw [← hr.out, Hx.out]
                  exact ⟨_, rfl, own_nil _ _ _ _, below_drewN (hbw.alloc hbw.size _) _⟩
              · rw [if_neg hm] at hx
                have hm1 : ((acc.length : Int) == 20000) = false := by simp; omega
                as_aux_lemma =>
                  have Hx := Lib.hid hx
                  clear hx hm
                  have hown1 : (((wr.alloc (Obj.cells #[.int .i64 kd, S tx, .int .i64 k] 35)).alloc (Obj.cells #[.int .i64 kd, S tx, .int .i64 k] 35)).drewN nd).ownsRow w.heap.size 35 3 (.slice A acc.length c) acc.length (tokCells acc) := (hown.alloc _).alloc _
                  go_wp2_with (at_builtin; refine wpList_append_own _ rfl _ _ 28 rfl w.heap.size 35 i0 (.agg #[.int .i64 0, .string ⟨#[]⟩, .int .i64 0]) 3 32 Tryd.underlying28 hi hz0 hz1 hz2 rfl (by decide) _ _ _ rfl hown1 ⟨wr.heap.size + 1, 0, none⟩ 1 1 [.int .i64 kd, S tx, .int .i64 k] rfl rfl ?c1 ?c2 ?c3 ?c4 ?c5 ?_)
                  case c2 => exact ⟨rfl, rfl, rfl⟩
                  case c3 => unfold maxLen; omega
                  case c4 => omega
                  case c5 => have := hbw.size; omega
                  intro v' w2 hown2 hg2 _
                  have hb2 : Below w.heap.size w w2 := ((below_drewN (hbw.alloc hbw.size _) nd).alloc (by have := hbw.size; simp; omega) _).grown hg2 (by have := hbw.size; simp; omega) (own_block_ge hown1)
                  have hown3 : w2.ownsRow w.heap.size 35 3 v' (acc ++ [(⟨kd, tx, k⟩ : Lfc.Tok)]).length (tokCells (acc ++ [⟨kd, tx, k⟩])) := by
                    rw [tokCells_snoc, List.length_append]; exact hown2
                  clear hown2 hg2 hown1
                  go_wp2_with fail
                  go_roundw
                  case rel => exact ⟨k + m, acc ++ [⟨kd, tx, k⟩], hm2, rfl, by simp; omega, hown3, hb2, Lib.hid (by rw [← hr.out, Hx.out])⟩
                  case measure => simp [intOf]; omega
        · have hX : Lfc.nx (l.drop k) = ⟨0, [], 1, 0⟩ := by rw [e1]; simp only [Lfc.nx]; rw [hb, if_pos rfl]
          rw [hX] at hx
          have Hx := Lib.hid hx
          clear hx hlen e1 hX
          as_aux_lemma =>
            go_wp2_with fail
            refine (rBlank_any _ _).mono ?_
            rintro e w1 ⟨rfl, rfl⟩
            go_wp2_with fail
            go_roundw
            case rel => exact ⟨k + 1, acc, by omega, by go_num, by omega, hown, hbw, Lib.hid (by rw [← hr.out, Hx.out]; rfl)⟩
            case measure => simp [intOf]; omega
      · have hkl : k = l.length := by omega
        have Hk := Lib.hid hkl
        clear hkl
        go_wp2_with fail
        go_ret3
        have e0 : Lfc.lexR k (l.drop k) acc = (acc, 0, l.length) := by rw [Hk.out, List.drop_length, Lfc.lexR_nil]
        rw [← hr.out, e0]
        exact ⟨_, rfl, hown, hbw⟩
end Go.Proofs.YtmdhkcefbkdkbaaDoor
