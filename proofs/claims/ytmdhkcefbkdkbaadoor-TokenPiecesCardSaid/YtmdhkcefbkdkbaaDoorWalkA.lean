/- The walks of the laws TokenCuts and TokenSpells. -/
import Derived.Test.YtmdhkcefbkdkbaaDoorText
import Derived.Test.YtmdhkcefbkdkbaaDoorAwake
import Derived.Test.YtmdhkcefbkdkbaaDoorTokLaw2
namespace Go.Proofs.YtmdhkcefbkdkbaaDoor
open Go.RowKit

@[go_sem] theorem bapp (a b : List UInt8) : (⟨a.toArray⟩ ++ ⟨b.toArray⟩ : ByteArray) = ⟨(a ++ b).toArray⟩ := by
  apply ByteArray.ext; simp [ByteArray.data_append]

def tx (zs : List Int) : List UInt8 := Lfc.textOf ((zs.take 300).map fun x => cutI x 32)
theorem tx_len (zs : List Int) : (tx zs).length ≤ 19200 := by
  have h := Lfc.textOf_len ((zs.take 300).map fun x => cutI x 32)
  rw [List.length_map, List.length_take] at h
  unfold tx; omega
theorem tx_brk (zs : List Int) : Lfc.brk false (tx zs) ≤ 1200 := by
  have h := Lfc.brk_textOf ((zs.take 300).map fun x => cutI x 32)
  rw [List.length_map, List.length_take] at h
  unfold tx; omega

theorem textX (v : Value) (zs : List Int) (w : World) (hi : IntsAt w v zs) (hp : PiecesAt w) : Calls Tryd.prog 15 #[v] w fun e w' => e = .returned (S (tx zs)) ∧ Below w.heap.size w w' := text_any v zs w hi hp
theorem lexX (l : List UInt8) (w : World) (h : l.length ≤ 65536) (hb : Lfc.brk false l ≤ 20000) (r : List Lfc.Tok × Int × Nat) (hr : Lfc.sc 0 l = r) : Calls Tryd.prog 21 #[S l] w (LexPost r w) := by
  rw [← hr, ← Lfc.lex_sc' l h hb]
  exact lex_any l w (by omega)

set_option maxRecDepth 100000 in
set_option maxHeartbeats 1000000 in
theorem cuts_walk (v1 v2 : Value) (z1 z2 : List Int) (w : World) (h1 : IntsAt w v1 z1) (h2 : IntsAt w v2 z2) (hp : PiecesAt w) :
    Calls Tryd.prog 7 #[v1, v2] w fun e w' => e = .returned (.bool true) ∧ Below w.heap.size w w' := by
  have hl1 := tx_len z1
  have hl2 := tx_len z2
  have hb1 := tx_brk z1
  have hb2 := tx_brk z2
  have H1 := Lib.hid (textX v1 z1 w h1 hp)
  have H2 := fun w' (hb : Below w.heap.size w w') => textX v2 z2 w' (h2.below hb) (hp.below hb)
  have H2 := Lib.hid H2
  generalize tx z1 = s at *
  generalize tx z2 = t at *
  clear h1 h2 hp
  obtain ⟨r, hr⟩ : ∃ r, Lfc.sc 0 s = r := ⟨_, rfl⟩
  have hcut := Lfc.sc_cut s t 0
  have hat := Lfc.sc_at_lt s 0
  rw [hr] at hcut hat
  have HL1 := Lib.hid (fun W => lexX s W (by omega) (by omega) r hr)
  have hbrk : Lfc.brk false (s ++ 32 :: t) ≤ 20000 := by
    have e1 := Lfc.brk_app s (32 :: t) false
    have e2 := Lfc.brk_app [32] t false
    have e3 : Lfc.brk false [32] ≤ 1 := by decide
    simp only [List.cons_append, List.nil_append] at e2
    omega
  obtain ⟨toks, e, n⟩ := r
  simp only at hcut hat
  clear hr
  by_cases h0 : e = 0 ∨ e = 11
  · have hg : ((e : Int) == 0) = true ∨ (((e : Int) == 0) = false ∧ ((e : Int) == 11) = true) := by
      rcases h0 with rfl | rfl
      · exact .inl rfl
      · exact .inr ⟨rfl, rfl⟩
    clear hcut hat h0 hbrk H2
    rcases hg with hg | ⟨hg, hg2⟩
    all_goals
      go_enter Tryd.func7, Tryd.ntmps7
      go_wp2_with fail
      refine H1.out.mono ?_
      rintro e' w1 ⟨rfl, hbw1⟩
      go_wp2_with fail
      refine (HL1.out _).mono ?_
      rintro e' w2 ⟨v, rfl, _, hbw2⟩
      go_wp2_with fail
      refine (awake_any _).mono ?_
      rintro e' w3 ⟨rfl, hbw3⟩
      go_wp2_with fail
      go_ret
      exact ⟨rfl, (hbw1.trans (hbw2.mono hbw1.size)).trans (hbw3.mono (Nat.le_trans hbw1.size hbw2.size))⟩
  · have g1 : ((e : Int) == 0) = false := by simp; omega
    have g2 : ((e : Int) == 11) = false := by simp; omega
    have hn := (hat (by omega)).2
    have hn1 : ((n : Int) < 0) = False := by simp
    have hn2 : decide (s.length ≤ n) = false := by simp; omega
    have HL2 := Lib.hid (fun W => lexX (s ++ 32 :: t) W (by simp; omega) hbrk _ (hcut (by omega) (by omega)))
    clear hcut hat h0 hbrk
    go_enter Tryd.func7, Tryd.ntmps7
    go_wp2_with fail
    refine H1.out.mono ?_
    rintro e' w1 ⟨rfl, hbw1⟩
    go_wp2_with fail
    refine (HL1.out _).mono ?_
    rintro e' w2 ⟨v, rfl, _, hbw2⟩
    go_wp2_with fail
    refine (H2.out _ (hbw1.trans (hbw2.mono hbw1.size))).mono ?_
    rintro e' w3 ⟨rfl, hbw3⟩
    go_wp2_with fail
    refine (HL2.out _).mono ?_
    rintro e' w4 ⟨v', rfl, _, hbw4⟩
    go_wp2_with fail
    refine (awake_any _).mono ?_
    rintro e' w5 ⟨rfl, hbw5⟩
    go_wp2_with fail
    go_ret
    have b2 := hbw1.trans (hbw2.mono hbw1.size)
    have b3 := b2.trans (hbw3.mono b2.size)
    have b4 := b3.trans (hbw4.mono b3.size)
    exact ⟨rfl, b4.trans (hbw5.mono b4.size)⟩

theorem lexR_ok (l : List UInt8) : ∀ n acc, (Lfc.sc n l).2.1 = 0 → acc.length + (Lfc.sc n l).1.length ≤ 20000 → Lfc.lexR n l acc = (acc ++ (Lfc.sc n l).1, (Lfc.sc n l).2) := by
  induction l using Lfc.item_induct with
  | h0 => intro n acc _ _; rw [Lfc.lexR_nil, Lfc.sc_nil]; simp
  | h1 c r he => intro n acc h _; rw [Lfc.sc_err _ _ _ he] at h; exact absurd h he
  | h2 c r he ih =>
    intro n acc h0 hacc
    rw [Lfc.sc_ok _ _ _ he, Lfc.put_snd] at h0
    rw [Lfc.sc_ok _ _ _ he, Lfc.put_fst _ _ _ h0] at hacc
    rw [Lfc.lexR_cons, if_neg (by simpa using he), Lfc.sc_ok _ _ _ he, Lfc.put_snd, Lfc.put_fst _ _ _ h0]
    by_cases hk : (Lfc.nx (c :: r)).kind = 0
    · rw [if_pos hk] at hacc
      rw [if_pos hk, if_pos hk, ih _ acc h0 (by simpa using hacc)]
      simp
    · rw [if_neg hk, List.length_append] at hacc
      simp only [List.length_cons, List.length_nil] at hacc
      rw [if_neg hk, if_neg hk, if_neg (by omega), ih _ _ h0 (by rw [List.length_append]; simp; omega)]
      simp
theorem lexOk (l : List UInt8) (w : World) (h : l.length ≤ 65536) (ts : List Lfc.Tok) (n : Nat) (hr : Lfc.sc 0 l = (ts, 0, n)) (hb : ts.length ≤ 20000) : Calls Tryd.prog 21 #[S l] w (LexPost (ts, 0, n) w) := by
  have e : Lfc.lex l = (ts, 0, n) := by
    rw [Lfc.lex_eq, if_neg (by omega), lexR_ok l 0 [] (by rw [hr]) (by rw [hr]; simpa using hb), hr]
    rfl
  rw [← e]
  exact lex_any l w (by omega)
theorem sameT_of {a b : List Lfc.Tok} (h : Lfc.sameKT b a) : SameT false a b := by
  have hl : b.length = a.length := by have := congrArg List.length h; simpa using this
  refine ⟨hl.symm, fun k s t hs ht => ?_⟩
  have := congrArg (fun l => l[k]?) h
  simp only [List.getElem?_map, hs, ht, Option.map_some, Option.some.injEq, Prod.mk.injEq] at this
  exact ⟨this.1.symm, this.2.symm, fun h => by cases h⟩

set_option maxRecDepth 100000 in
set_option maxHeartbeats 1000000 in
theorem spells_walk (v1 : Value) (z1 : List Int) (w : World) (h1 : IntsAt w v1 z1) (hp : PiecesAt w) :
    Calls Tryd.prog 5 #[v1] w fun e w' => e = .returned (.bool true) ∧ Below w.heap.size w w' := by
  have hl1 := tx_len z1
  have hb1 := tx_brk z1
  have H1 := Lib.hid (textX v1 z1 w h1 hp)
  generalize tx z1 = s at *
  clear h1 hp
  obtain ⟨r, hr⟩ : ∃ r, Lfc.sc 0 s = r := ⟨_, rfl⟩
  have hcnt := Lfc.sc_count s 0
  have hnone := Lfc.sc_none s 0
  have hval := Lfc.sc_valid s 0
  have hst := Lfc.sc_stands s s 0 0 (Nat.zero_le _) rfl (Nat.le_refl _)
  rw [hr] at hcnt hnone hval hst
  have HL1 := Lib.hid (fun W => lexX s W (by omega) (by omega) r hr)
  obtain ⟨toks, e, n⟩ := r
  simp only at hcnt hnone hval hst
  clear hr
  by_cases h0 : e = 0
  · subst h0
    have hlen : (Lfc.spell toks).length ≤ 20400 := by
      have a1 := Lfc.stands_len s toks 0 (Nat.zero_le _) hst
      have a2 := Lfc.spell_len toks
      omega
    obtain ⟨ts, hts, hsame⟩ := Lfc.sc_spell toks hval 0
    have hT := sameT_of hsame
    have hn2 : ts.length ≤ 1200 := by have := hT.1; omega
    have HL2 := Lib.hid (fun W => lexOk (Lfc.spell toks) W (by omega) ts _ hts (by omega))
    rw [Nat.zero_add] at HL2
    have HS := Lib.hid (fun v W (h : TokAt W v toks) => spell_any v toks W h (by omega) (by omega))
    generalize Lfc.spell toks = sp at *
    have HT := Lib.hid hT
    have hn1 : toks.length ≤ 1200 := by omega
    clear hst hnone hval hsame hT hts hcnt
    go_enter Tryd.func5, Tryd.ntmps5
    go_wp2_with fail
    refine H1.out.mono ?_
    rintro e' w1 ⟨rfl, hbw1⟩
    go_wp2_with fail
    refine (HL1.out _).mono ?_
    rintro e' w2 ⟨v, rfl, hown, hbw2⟩
    go_wp2_with fail
    have hta := TokAt.of_own hown
    refine (HS.out v _ hta).mono ?_
    rintro e' w3 ⟨rfl, hbw3⟩
    go_wp2_with fail
    refine (HL2.out _).mono ?_
    rintro e' w4 ⟨v', rfl, hown', hbw4⟩
    go_wp2_with fail
    have htb := TokAt.of_own hown'
    refine (same_any v v' toks ts false _ ((hta.below hbw3).below hbw4) htb HT.out (by omega)).mono ?_
    rintro e' w5 ⟨rfl, hbw5⟩
    go_wp2_with fail
    refine (awake_any _).mono ?_
    rintro e' w6 ⟨rfl, hbw6⟩
    go_wp2_with fail
    go_ret
    have b2 := hbw1.trans (hbw2.mono hbw1.size)
    have b3 := b2.trans (hbw3.mono b2.size)
    have b4 := b3.trans (hbw4.mono b3.size)
    have b5 := b4.trans (hbw5.mono b4.size)
    exact ⟨rfl, b5.trans (hbw6.mono b5.size)⟩
  · obtain rfl := hnone h0
    have g1 : ((e : Int) != 0) = true := by simp [h0]
    clear hnone hval hst h0
    go_enter Tryd.func5, Tryd.ntmps5
    go_wp2_with fail
    refine H1.out.mono ?_
    rintro e' w1 ⟨rfl, hbw1⟩
    go_wp2_with fail
    refine (HL1.out _).mono ?_
    rintro e' w2 ⟨v, rfl, hown, hbw2⟩
    obtain ⟨A, c, rfl⟩ := own_form hown
    go_wp2_with fail
    refine (awake_any _).mono ?_
    rintro e' w3 ⟨rfl, hbw3⟩
    go_wp2_with fail
    go_ret
    have b2 := hbw1.trans (hbw2.mono hbw1.size)
    exact ⟨rfl, b2.trans (hbw3.mono b2.size)⟩
end Go.Proofs.YtmdhkcefbkdkbaaDoor
