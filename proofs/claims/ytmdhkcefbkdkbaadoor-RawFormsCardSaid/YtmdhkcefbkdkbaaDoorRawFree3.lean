/- The contract of Free's closure walk. -/
import Derived.Test.YtmdhkcefbkdkbaaDoorRawFree2
import Derived.Test.YtmdhkcefbkdkbaaDoorRawFmt3
set_option linter.unusedVariables false
set_option linter.unusedSimpArgs false
namespace Go.Proofs.YtmdhkcefbkdkbaaDoor
open Go.RowKit Go.Maps Go.WideMaps

/-- What walk does at trees of at most so many nodes. -/
def WalkUpto (w0 : World) (b m : Nat) : Prop := ∀ (t : Lfc.Raw) (v : Value) (w : World) (out bound : List (List UInt8)), t.size ≤ m → t.form = true → TreeV w0 t v → FrI w0 b out out bound w → out.length + bound.length + t.size ≤ 1000000000 →
    Calls Tryd.prog 64 #[v, .pointer (some ⟨b + 1, 0, none⟩), .pointer (some ⟨b + 4, 0, none⟩), .pointer (some ⟨b + 5, 0, none⟩)] w fun e w' => e = .returned (.tuple #[]) ∧ FrI w0 b (Lfc.Raw.fr bound t out) (Lfc.Raw.fr bound t out) bound w' ∧ Below b w w' ∧ KeptR w w'

set_option maxRecDepth 100000 in
set_option maxHeartbeats 2000000 in
theorem walk_leaf (w0 : World) (b : Nat) (k p : Int) (n : List UInt8) (hk : k = 1 ∨ k = 2) (v : Value) (w : World) (out bound : List (List UInt8)) (hv : TreeV w0 (.node k n p []) v) (h : FrI w0 b out out bound w) (hl : out.length + bound.length + 1 ≤ 1000000000) :
    Calls Tryd.prog 64 #[v, .pointer (some ⟨b + 1, 0, none⟩), .pointer (some ⟨b + 4, 0, none⟩), .pointer (some ⟨b + 5, 0, none⟩)] w fun e w' => e = .returned (.tuple #[]) ∧ FrI w0 b (Lfc.Raw.fr bound (.node k n p []) out) (Lfc.Raw.fr bound (.node k n p []) out) bound w' ∧ Below b w w' ∧ KeptR w w' := by
  have he := enters_add
  have hn := hv.name_le
  obtain ⟨A, c, rfl, hc, hA⟩ := hv.open_
  have H0 := Lib.hid (FrS.start #[.int .i64 k, S n, .int .i64 p, .slice A 0 c] h)
  clear hv hA h
  simp only [List.length_nil]
  have ha := cell_of_one H0.out.inv.av
  have HADD := Lib.hid (fun W => add_any w0 b out bound n W hn (by omega))
  rcases hk with rfl | rfl
  · have e : Lfc.Raw.fr bound (.node 1 n p []) out = if n ∈ bound then out else Lfc.addN n out := by rw [Lfc.Raw.fr, if_pos rfl]
    rw [e]
    clear e
    obtain ⟨Ab, cb, hbc, hbn⟩ := H0.out.inv.bound_at
    have HN := Lib.hid (contains_any bound n Ab cb _ (by omega) hbn)
    clear hbn
    by_cases hm : n ∈ bound
    · rw [if_pos hm]
      rw [decide_eq_true hm] at HN
      clear hm
      go_enter Tryd.func64, Tryd.ntmps64
      go_wp2_with fail
      refine HN.out.mono ?_
      rintro e w1 ⟨rfl, rfl⟩
      go_wp2_with fail
      go_end0
      exact ⟨rfl, H0.out.inv, H0.out.bel, H0.out.kept⟩
    · rw [if_neg hm]
      rw [decide_eq_false hm] at HN
      clear hm
      go_enter Tryd.func64, Tryd.ntmps64
      go_wp2_with fail
      refine HN.out.mono ?_
      rintro e w1 ⟨rfl, rfl⟩
      go_wp2_with fail
      refine (HADD.out _ H0.out.inv).mono ?_
      rintro e w2 ⟨rfl, hi2, hb2, hk2⟩
      have H2 := Lib.hid (H0.out.next hi2 hb2 hk2)
      clear hi2 hb2 hk2
      go_wp2_with fail
      go_end0
      exact ⟨rfl, H2.out.inv, H2.out.bel, H2.out.kept⟩
  · have e : Lfc.Raw.fr bound (.node 2 n p []) out = Lfc.addN n out := by rw [Lfc.Raw.fr, if_neg (by decide), if_pos rfl]
    rw [e]
    clear e
    go_enter Tryd.func64, Tryd.ntmps64
    go_wp2_with fail
    refine (HADD.out _ H0.out.inv).mono ?_
    rintro e w2 ⟨rfl, hi2, hb2, hk2⟩
    have H2 := Lib.hid (H0.out.next hi2 hb2 hk2)
    clear hi2 hb2 hk2
    go_wp2_with fail
    go_end0
    exact ⟨rfl, H2.out.inv, H2.out.bel, H2.out.kept⟩
end Go.Proofs.YtmdhkcefbkdkbaaDoor
