/- Contracts of token.name, token.percent and token.next: the item that begins at a byte. -/
import Derived.Test.YtmdhkcefbkdkbaaDoorLeaf
namespace Go.Proofs.YtmdhkcefbkdkbaaDoor
open Go.RowKit

def posOf (k : Int) (at_ : Nat) : Int := if k = 0 then 0 else (at_ : Int)
abbrev tokV (x : Lfc.Nx) (at_ : Nat) : Value := .agg #[.int .i64 x.kind, S x.text, .int .i64 (posOf x.kind at_)]
theorem bcell {W w1 : World} (hb : Below W.heap.size W w1) : (∀ b o, b < W.heap.size → w1.cell? ⟨b, o, none⟩ = W.cell? ⟨b, o, none⟩) ∧ (∀ b o, b < W.heap.size → w1.frozen? ⟨b, o, none⟩ = W.frozen? ⟨b, o, none⟩) :=
  ⟨fun b o h => hb.cell (p := ⟨b, o, none⟩) h, fun b o h => hb.frozen (p := ⟨b, o, none⟩) h⟩
/-- An item is returned with its end; only new memory is made. -/
def NxPost (x : Lfc.Nx) (at_ : Nat) (end_ : Int) (w : World) (e : Ending) (w' : World) : Prop :=
  e = .returned (.tuple #[tokV x at_, .int .i64 end_, .int .i64 x.err]) ∧ Below w.heap.size w w'

set_option maxHeartbeats 1000000 in
theorem name_any (word : List UInt8) (a b : Nat) (w : World) (_hl : word.length ≤ 65536) :
    Calls Tryd.prog 72 #[S word, .int .i64 a, .int .i64 b] w (NxPost (Lfc.nm word) a (if 64 < word.length then a else b) w) := by
  by_cases h64 : 64 < word.length
  · go_enter Tryd.func72, Tryd.ntmps72
    go_wp2_with fail
    refine bodyPost_ret (v := .tuple #[.agg #[.int .i64 0, S [], .int .i64 0], .int .i64 a, .int .i64 12]) (by simp [results, Tryd.results72, go_sem]) rfl ⟨?_, (Below.refl _ _).alloc (Nat.le_refl _) _⟩
    simp [Lfc.nm, h64, posOf]
  · cases hr : Lfc.reservedB word
    · go_enter Tryd.func72, Tryd.ntmps72
      go_wp2_with (go_at_call 44; refine (reserved_any _ _).mono ?_; rintro e w' ⟨rfl, rfl⟩)
      refine bodyPost_ret (v := .tuple #[.agg #[.int .i64 1, S word, .int .i64 a], .int .i64 b, .int .i64 0]) (by simp [results, Tryd.results72, go_sem]) rfl ⟨?_, (Below.refl _ _).alloc (Nat.le_refl _) _⟩
      simp [Lfc.nm, h64, posOf, hr]
    · go_enter Tryd.func72, Tryd.ntmps72
      go_wp2_with (go_at_call 44; refine (reserved_any _ _).mono ?_; rintro e w' ⟨rfl, rfl⟩)
      refine bodyPost_ret (v := .tuple #[.agg #[.int .i64 2, S word, .int .i64 a], .int .i64 b, .int .i64 0]) (by simp [results, Tryd.results72, go_sem]) rfl ⟨?_, (Below.refl _ _).alloc (Nat.le_refl _) _⟩
      simp [Lfc.nm, h64, posOf, hr]

theorem pre2 (l : List UInt8) (a : Nat) (ha : a < l.length) (h1 : l[a].toNat = 37) : Lib.hasPrefix (l.drop a) [37, 123] = decide (∃ h : a + 1 < l.length, l[a + 1].toNat = 123) := by
  have h37 : l[a] = 37 := UInt8.toNat_inj.1 h1
  rw [Bool.eq_iff_iff, List.drop_eq_getElem_cons ha, h37]
  by_cases h : a + 1 < l.length
  · rw [List.drop_eq_getElem_cons h]
    have e : (l[a + 1].toNat = 123) ↔ 123 = l[a + 1] := ⟨fun h => (UInt8.toNat_inj.1 h).symm, fun h => by rw [← h]; rfl⟩
    simp only [Lib.hasPrefix, List.isPrefixOf]
    simp [h, e]
  · rw [List.drop_eq_nil_of_le (by omega)]
    simp [Lib.hasPrefix, h]

set_option maxHeartbeats 1000000 in
theorem percent_any (l : List UInt8) (a : Nat) (w : World) (hl : l.length ≤ 65536) (ha : a < l.length) (h37 : Hid (l[a].toNat = 37)) :
    Calls Tryd.prog 71 #[S l, .int .i64 a] w (NxPost (Lfc.pc (l.drop (a + 1))) a ((a + (Lfc.pc (l.drop (a + 1))).len : Nat) : Int) w) := by
  have hp := pre2 l a ha h37.out
  by_cases hb : ∃ h : a + 1 < l.length, l[a + 1].toNat = 123
  · rw [decide_eq_true hb] at hp
    obtain ⟨hb1, hb2⟩ := hb
    have e1 : l.drop (a + 1) = l[a + 1] :: l.drop (a + 2) := List.drop_eq_getElem_cons hb1
    have ht : ((l.drop a).take 2 == [37, 123]) = true := by
      rw [take2 l a hb1]; simp [← UInt8.toNat_inj, h37.out, hb2]
    have Ht := Lib.hid ht
    cases hc : Lfc.cmt 1 (l.drop (a + 2)) with
    | none =>
      have hpc : Lfc.pc (l.drop (a + 1)) = ⟨0, [], 0, 11⟩ := by rw [e1]; simp [Lfc.pc, hb2, hc]
      rw [hpc]
      have Hc := Lib.hid hc
      clear hpc hc ht e1 hb2
      go_enter Tryd.func71, Tryd.ntmps71
      go_wp2_with (first | (go_at_call 81; refine (Tryd.strings_HasPrefix _ _ _).mono ?_; rintro e w' ⟨rfl, rfl⟩) | (go_at_call 82; refine (comment_any l a _ hl hb1 Ht.out).mono ?_; rintro e w' ⟨rfl, rfl⟩; rw [Hc.out]; simp only [cmtEnd]))
      refine bodyPost_ret (v := .tuple #[.agg #[.int .i64 0, S [], .int .i64 0], .int .i64 a, .int .i64 11]) (by simp [results, Tryd.results71, go_sem]) rfl ⟨?_, (Below.refl _ _).alloc (Nat.le_refl _) _⟩
      simp [posOf]
    | some r =>
      have hlen := Lfc.cmt_len _ _ (Nat.le_refl _) _ _ hc
      rw [List.length_drop] at hlen
      have hpc : Lfc.pc (l.drop (a + 1)) = ⟨0, [], 2 + (l.drop (a + 2)).length - r.length, 0⟩ := by rw [e1]; simp [Lfc.pc, hb2, hc]
      have hN : a + (2 + (l.drop (a + 2)).length - r.length) = l.length - r.length := by rw [List.length_drop]; omega
      rw [hpc, hN]
      have Hc := Lib.hid hc
      clear hpc hc ht e1 hb2 hN
      go_enter Tryd.func71, Tryd.ntmps71
      go_wp2_with (first | (go_at_call 81; refine (Tryd.strings_HasPrefix _ _ _).mono ?_; rintro e w' ⟨rfl, rfl⟩) | (go_at_call 82; refine (comment_any l a _ hl hb1 Ht.out).mono ?_; rintro e w' ⟨rfl, rfl⟩; rw [Hc.out]; simp only [cmtEnd]))
      refine bodyPost_ret (v := .tuple #[.agg #[.int .i64 0, S [], .int .i64 0], .int .i64 ((l.length - r.length : Nat) : Int), .int .i64 0]) (by simp [results, Tryd.results71, go_sem]) rfl ⟨?_, (Below.refl _ _).alloc (Nat.le_refl _) _⟩
      simp [posOf]
  · rw [decide_eq_false hb] at hp
    have hpc : Lfc.pc (l.drop (a + 1)) = (if Lfc.runLen Lfc.letterB (l.drop (a + 1)) = 0 then ⟨0, [], Lfc.runLen Lfc.notNlB (l.drop (a + 1)) + 1, 0⟩ else if 64 < Lfc.runLen Lfc.letterB (l.drop (a + 1)) then ⟨0, [], 0, 12⟩
        else ⟨3, (l.drop (a + 1)).take (Lfc.runLen Lfc.letterB (l.drop (a + 1))), Lfc.runLen Lfc.letterB (l.drop (a + 1)) + 1, 0⟩) := by
      by_cases h : a + 1 < l.length
      · have e1 : l.drop (a + 1) = l[a + 1] :: l.drop (a + 2) := List.drop_eq_getElem_cons h
        have hne : ¬ l[a + 1].toNat = 123 := fun e => hb ⟨h, e⟩
        rw [e1]; simp only [Lfc.pc]; rw [if_neg hne]
      · rw [List.drop_eq_nil_of_le (by omega)]; simp [Lfc.pc, Lfc.runLen]
    have hn := Lfc.runLen_le Lfc.letterB (l.drop (a + 1))
    have hm := Lfc.runLen_le Lfc.notNlB (l.drop (a + 1))
    have hnl : Lfc.runLen Lfc.notNlB (l.drop a) = Lfc.runLen Lfc.notNlB (l.drop (a + 1)) + 1 := by
      rw [runLen_drop _ l a ha, if_pos (by simp [Lfc.notNlB, h37.out])]
    rw [List.length_drop] at hn hm
    generalize hN : Lfc.runLen Lfc.letterB (l.drop (a + 1)) = n at *
    generalize hM : Lfc.runLen Lfc.notNlB (l.drop (a + 1)) = m at *
    have HN := Lib.hid hN
    have HL := Lib.hid hnl
    clear hN hM hnl
    by_cases h0 : n = 0
    · rw [if_pos h0] at hpc
      rw [hpc]
      subst h0
      clear hpc hb
      go_enter Tryd.func71, Tryd.ntmps71
      go_wp2_with fail
      refine (Tryd.strings_HasPrefix _ _ _).mono ?_
      rintro e w' ⟨rfl, rfl⟩
      go_wp2_with fail
      rw [show (a : Int) + 1 = ((a + 1 : Nat) : Int) by omega]
      refine (runLetter_any l (a + 1) _ hl (by omega)).mono ?_
      rintro e w' ⟨rfl, rfl⟩
      rw [HN.out]
      go_wp2_with fail
      refine (runNl_any l a _ hl (by omega)).mono ?_
      rintro e w' ⟨rfl, rfl⟩
      rw [HL.out]
      go_wp2_with fail
      refine bodyPost_ret (v := .tuple #[.agg #[.int .i64 0, S [], .int .i64 0], .int .i64 ((a + (m + 1) : Nat) : Int), .int .i64 0]) (by simp [results, Tryd.results71, go_sem]) rfl ⟨?_, (Below.refl _ _).alloc (Nat.le_refl _) _⟩
      simp [posOf]
    · rw [if_neg h0] at hpc
      by_cases h64 : 64 < n
      · rw [if_pos h64] at hpc
        rw [hpc]
        clear hpc hb
        go_enter Tryd.func71, Tryd.ntmps71
        go_wp2_with fail
        refine (Tryd.strings_HasPrefix _ _ _).mono ?_
        rintro e w' ⟨rfl, rfl⟩
        go_wp2_with fail
        rw [show (a : Int) + 1 = ((a + 1 : Nat) : Int) by omega]
        refine (runLetter_any l (a + 1) _ hl (by omega)).mono ?_
        rintro e w' ⟨rfl, rfl⟩
        rw [HN.out]
        go_wp2_with fail
        refine bodyPost_ret (v := .tuple #[.agg #[.int .i64 0, S [], .int .i64 0], .int .i64 a, .int .i64 12]) (by simp [results, Tryd.results71, go_sem]) rfl ⟨?_, (Below.refl _ _).alloc (Nat.le_refl _) _⟩
        simp [posOf]
      · rw [if_neg h64] at hpc
        rw [hpc]
        clear hpc hb
        go_enter Tryd.func71, Tryd.ntmps71
        go_wp2_with fail
        refine (Tryd.strings_HasPrefix _ _ _).mono ?_
        rintro e w' ⟨rfl, rfl⟩
        go_wp2_with fail
        rw [show (a : Int) + 1 = ((a + 1 : Nat) : Int) by omega]
        refine (runLetter_any l (a + 1) _ hl (by omega)).mono ?_
        rintro e w' ⟨rfl, rfl⟩
        rw [HN.out]
        go_wp2_with fail
        refine bodyPost_ret (v := .tuple #[.agg #[.int .i64 3, S ((l.drop (a + 1)).take n), .int .i64 a], .int .i64 ((a + 1 + n : Nat) : Int), .int .i64 0]) (by simp [results, Tryd.results71, go_sem]) rfl ⟨?_, (Below.refl _ _).alloc (Nat.le_refl _) _⟩
        simp [posOf]; omega

set_option maxHeartbeats 1000000 in
theorem next_any (l : List UInt8) (a : Nat) (w : World) (hl : l.length ≤ 65536) (ha : a < l.length) :
    Calls Tryd.prog 47 #[S l, .int .i64 a] w (NxPost (Lfc.nx (l.drop a)) a ((a + (Lfc.nx (l.drop a)).len : Nat) : Int) w) := by
  have e1 : l.drop a = l[a] :: l.drop (a + 1) := List.drop_eq_getElem_cons ha
  cases hb : Lfc.blankB l[a]
  · by_cases h37 : l[a].toNat = 37
    · have hx : Lfc.nx (l.drop a) = Lfc.pc (l.drop (a + 1)) := by rw [e1]; simp only [Lfc.nx]; rw [hb, if_neg (by simp), if_pos h37]
      rw [hx]
      have H37 := Lib.hid h37
      have h37' : ((l[a].toNat : Int) == 37) = true := by simp; omega
      clear e1 hx h37
      generalize hX : Lfc.pc (l.drop (a + 1)) = X
      have HX := Lib.hid hX
      clear hX
      go_enter Tryd.func47, Tryd.ntmps47
      go_wp2_with (first | (go_at_call 70; refine (blank_any _ _).mono ?_; rintro e w' ⟨rfl, rfl⟩))
      refine (percent_any l a _ hl ha H37).mono ?_
      rw [HX.out]
      rintro e w1 ⟨rfl, hb1⟩
      obtain ⟨hc, hf⟩ := bcell hb1
      go_wp2_with fail
      refine bodyPost_ret (v := .tuple #[tokV X a, .int .i64 (a + X.len), .int .i64 X.err]) (by simp [results, Tryd.results47, go_sem, hc]) rfl ⟨by simp, ?_⟩
      exact ((((((Below.refl _ _).alloc (Nat.le_refl _) _).trans (hb1.mono (by simp)))).setCell (by simp) _).setCell (by simp) _).setCell (by simp) _
    · have h37' : ((l[a].toNat : Int) == 37) = false := by simp; omega
      cases hn : Lfc.nameB l[a]
      · cases hs : Lfc.specialB l[a]
        · have hx : Lfc.nx (l.drop a) = ⟨0, [], 0, 10⟩ := by rw [e1]; simp only [Lfc.nx]; rw [hb, if_neg (by simp), if_neg h37, hn, if_neg (by simp), hs, if_neg (by simp)]
          rw [hx]
          have hs' := of_decide_eq_false hs
          have Hs := Lib.hid hs'
          clear e1 hx h37 hs hs'
          go_enter Tryd.func47, Tryd.ntmps47
          go_wp2_with (first | (go_at_call 70; refine (blank_any _ _).mono ?_; rintro e w' ⟨rfl, rfl⟩) | (go_at_call 43; refine (nameByte_any _ _).mono ?_; rintro e w' ⟨rfl, rfl⟩))
          refine (idxSpecial_any l[a] _).mono ?_
          rintro e w' ⟨i, rfl, hi, rfl⟩
          have hi0 : i < 0 := hi.2 Hs.out
          clear hi
          go_wp2_with fail
          refine bodyPost_ret (v := .tuple #[.agg #[.int .i64 0, S [], .int .i64 0], .int .i64 a, .int .i64 10]) (by simp [results, Tryd.results47, go_sem]) rfl ⟨by simp [posOf], ?_⟩
          exact (Below.refl _ _).alloc (Nat.le_refl _) _
        · have hx : Lfc.nx (l.drop a) = ⟨2, [l[a]], 1, 0⟩ := by rw [e1]; simp only [Lfc.nx]; rw [hb, if_neg (by simp), if_neg h37, hn, if_neg (by simp), hs, if_pos rfl]
          have ht1 : (l.drop a).take 1 = [l[a]] := by rw [e1]; rfl
          rw [hx]
          have hs' := of_decide_eq_true hs
          have Hs := Lib.hid hs'
          have H1 := Lib.hid ht1
          clear e1 hx h37 hs hs' ht1
          go_enter Tryd.func47, Tryd.ntmps47
          go_wp2_with (first | (go_at_call 70; refine (blank_any _ _).mono ?_; rintro e w' ⟨rfl, rfl⟩) | (go_at_call 43; refine (nameByte_any _ _).mono ?_; rintro e w' ⟨rfl, rfl⟩))
          refine (idxSpecial_any l[a] _).mono ?_
          rintro e w' ⟨i, rfl, hi, rfl⟩
          have hi0 : ¬ i < 0 := fun h => hi.1 h Hs.out
          clear hi
          go_wp2_with fail
          refine bodyPost_ret (v := .tuple #[.agg #[.int .i64 2, S ((l.drop a).take 1), .int .i64 a], .int .i64 (a + 1), .int .i64 0]) (by simp [results, Tryd.results47, go_sem]) rfl ⟨by rw [H1.out]; simp [posOf], ?_⟩
          exact (Below.refl _ _).alloc (Nat.le_refl _) _
      · have hx : Lfc.nx (l.drop a) = Lfc.nm ((l.drop a).take (Lfc.runLen Lfc.nameB (l.drop a))) := by rw [e1]; simp only [Lfc.nx]; rw [hb, if_neg (by simp), if_neg h37, hn, if_pos rfl]
        have hr := Lfc.runLen_le Lfc.nameB (l.drop a)
        have hlen : ((l.drop a).take (Lfc.runLen Lfc.nameB (l.drop a))).length = Lfc.runLen Lfc.nameB (l.drop a) := by rw [List.length_take]; omega
        rw [List.length_drop] at hr
        rw [hx]
        generalize hN : Lfc.runLen Lfc.nameB (l.drop a) = n at *
        have he : (if 64 < ((l.drop a).take n).length then (a : Int) else ((a + n : Nat) : Int)) = ((a + (Lfc.nm ((l.drop a).take n)).len : Nat) : Int) := by
          rw [hlen]; simp only [Lfc.nm, hlen]; split <;> rfl
        have hw : ((l.drop a).take n).length ≤ 65536 := by omega
        generalize hX : Lfc.nm ((l.drop a).take n) = X at *
        have HN := Lib.hid hN
        have HX := Lib.hid hX
        have HE := Lib.hid he
        clear hN e1 hx h37 hlen hX he
        go_enter Tryd.func47, Tryd.ntmps47
        go_wp2_with (first | (go_at_call 70; refine (blank_any _ _).mono ?_; rintro e w' ⟨rfl, rfl⟩) | (go_at_call 43; refine (nameByte_any _ _).mono ?_; rintro e w' ⟨rfl, rfl⟩))
        refine (runName_any l a _ hl (by omega)).mono ?_
        rintro e w' ⟨rfl, rfl⟩
        rw [HN.out]
        go_wp2_with fail
        rw [show (a : Int) + n = ((a + n : Nat) : Int) by omega]
        refine (name_any ((l.drop a).take n) a (a + n) _ hw).mono ?_
        rw [HX.out, HE.out]
        rintro e w1 ⟨rfl, hb1⟩
        obtain ⟨hc, hf⟩ := bcell hb1
        go_wp2_with fail
        refine bodyPost_ret (v := .tuple #[tokV X a, .int .i64 (a + X.len), .int .i64 X.err]) (by simp [results, Tryd.results47, go_sem, hc]) rfl ⟨by simp, ?_⟩
        exact ((((((Below.refl _ _).alloc (Nat.le_refl _) _).trans (hb1.mono (by simp)))).setCell (by simp) _).setCell (by simp) _).setCell (by simp) _
  · have hx : Lfc.nx (l.drop a) = ⟨0, [], 1, 0⟩ := by rw [e1]; simp only [Lfc.nx]; rw [hb, if_pos rfl]
    rw [hx]
    clear e1 hx
    go_enter Tryd.func47, Tryd.ntmps47
    go_wp2_with (first | (go_at_call 70; refine (blank_any _ _).mono ?_; rintro e w' ⟨rfl, rfl⟩))
    refine bodyPost_ret (v := .tuple #[.agg #[.int .i64 0, S [], .int .i64 0], .int .i64 (a + 1), .int .i64 0]) (by simp [results, Tryd.results47, go_sem]) rfl ⟨by simp [posOf], ?_⟩
    exact (Below.refl _ _).alloc (Nat.le_refl _) _
end Go.Proofs.YtmdhkcefbkdkbaaDoor
