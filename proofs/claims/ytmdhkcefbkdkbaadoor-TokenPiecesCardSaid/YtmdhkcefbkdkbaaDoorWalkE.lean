/- The walk of the law TokenPieces. -/
import Derived.Test.YtmdhkcefbkdkbaaDoorWalkC
import Derived.Test.YtmdhkcefbkdkbaaDoorRefLex
namespace Go.Proofs.YtmdhkcefbkdkbaaDoor
open Go.RowKit

theorem lexF_len : ∀ (f n : Nat) (l : List UInt8) (acc : List Lfc.Tok), acc.length ≤ 20000 → (Lfc.lexF f n l acc).1.length ≤ 20000 := by
  intro f
  induction f with
  | zero => intro n l acc h; exact h
  | succ f ih =>
    intro n l acc h
    match l with
    | [] => exact h
    | c :: r =>
      rw [Lfc.lexF]
      split
      · simp
      · split
        · exact ih _ _ _ h
        · split
          · simp
          · exact ih _ _ _ (by rw [List.length_append]; simp; omega)
theorem lex_len (l : List UInt8) : (Lfc.lex l).1.length ≤ 20000 := by
  unfold Lfc.lex
  split
  · simp
  · exact lexF_len _ _ _ _ (by simp)

set_option maxRecDepth 100000 in
set_option maxHeartbeats 1000000 in
theorem sameLaw_any (s : List UInt8) (w : World) (hs : s.length ≤ 9223372036854775807) :
    Calls Tryd.prog 14 #[S s] w fun e w' => e = .returned (.bool true) ∧ Below w.heap.size w w' := by
  have hl := lex_len s
  have H1 := Lib.hid (fun W => lex_any s W hs)
  have H2 := Lib.hid (fun W => rLex_any s W hs)
  generalize Lfc.lex s = r at *
  obtain ⟨toks, e, n⟩ := r
  simp only at hl
  go_enter Tryd.func14, Tryd.ntmps14
  go_wp2_with fail
  refine (H1.out _).mono ?_
  rintro e' w1 ⟨va, rfl, owna, hbw1⟩
  go_wp2_with fail
  refine (H2.out _).mono ?_
  rintro e' w2 ⟨vb, rfl, ownb, hbw2⟩
  have ta := (TokAt.of_own owna).below hbw2
  have tb := TokAt.of_own ownb
  clear owna ownb
  go_wp2_with fail
  refine (same_any va vb toks toks true _ ta tb (sameT_refl toks) (by omega)).mono ?_
  rintro e' w3 ⟨rfl, hbw3⟩
  go_wp2_with fail
  go_ret
  have b2 := hbw1.trans (hbw2.mono hbw1.size)
  exact ⟨rfl, b2.trans (hbw3.mono b2.size)⟩

set_option maxHeartbeats 1000000 in
theorem pieces_walk (v1 : Value) (z1 : List Int) (w : World) (h1 : IntsAt w v1 z1) (hp : PiecesAt w) :
    Calls Tryd.prog 3 #[v1] w fun e w' => e = .returned (.bool true) ∧ Below w.heap.size w w' := by
  have hl1 := tx_len z1
  have H1 := Lib.hid (textX v1 z1 w h1 hp)
  generalize tx z1 = s at *
  clear h1 hp
  go_enter Tryd.func3, Tryd.ntmps3
  go_wp2_with fail
  refine H1.out.mono ?_
  rintro e' w1 ⟨rfl, hbw1⟩
  go_wp2_with fail
  refine (sameLaw_any s _ (by omega)).mono ?_
  rintro e' w2 ⟨rfl, hbw2⟩
  go_wp2_with fail
  refine (awake_any _).mono ?_
  rintro e' w3 ⟨rfl, hbw3⟩
  go_wp2_with fail
  go_ret
  have b2 := hbw1.trans (hbw2.mono hbw1.size)
  exact ⟨rfl, b2.trans (hbw3.mono b2.size)⟩
end Go.Proofs.YtmdhkcefbkdkbaaDoor
