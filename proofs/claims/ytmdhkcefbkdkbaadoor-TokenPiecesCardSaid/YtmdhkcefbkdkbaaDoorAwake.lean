/- The contract of awake: it returns true. -/
import Derived.Test.YtmdhkcefbkdkbaaDoorSpell
import Derived.Test.YtmdhkcefbkdkbaaDoorNames
namespace Go.Proofs.YtmdhkcefbkdkbaaDoor
open Go.RowKit

def awText : List UInt8 := [97, 32, 58, 32, 116, 121, 112, 101, 46, 32, 37, 109, 111, 100, 101, 32, 102, 32, 43, 46, 32, 37, 32, 120, 10, 37, 123, 32, 98, 32, 37, 123, 32, 99, 32, 125, 37, 32, 125, 37]
def awToks : List Lfc.Tok := [⟨1, [97], 0⟩, ⟨2, [58], 2⟩, ⟨2, [116, 121, 112, 101], 4⟩, ⟨2, [46], 8⟩, ⟨3, [109, 111, 100, 101], 10⟩, ⟨1, [102], 16⟩, ⟨1, [43], 18⟩, ⟨2, [46], 19⟩]
theorem aw_lex : Lfc.lex awText = (awToks, 0, 40) := by kernel_rfl

theorem TokAt.take {w : World} {A : Option Addr} {n c : Nat} {l : List Lfc.Tok} (h : TokAt w (.slice A n c) l) (k : Nat) (hk : k ≤ n) : TokAt w (.slice A k c) (l.take k) := by
  obtain ⟨A', c', hv, h1, h2⟩ := h
  injection hv with e1 e2 e3
  subst e1 e2 e3
  have hl : (l.take k).length = k := by rw [List.length_take]; omega
  refine ⟨A, c, by rw [hl], by omega, fun hp => ?_⟩
  obtain ⟨b, o, hA, hb, hc⟩ := h2 (by omega)
  refine ⟨b, o, hA, hb, fun j t ht => hc j t ?_⟩
  rw [List.getElem?_take] at ht
  split at ht
  · exact ht
  · cases ht

set_option maxRecDepth 100000 in
set_option maxHeartbeats 2000000 in
theorem awake_any (w : World) : Calls Tryd.prog 16 #[] w fun e w' => e = .returned (.bool true) ∧ Below w.heap.size w w' := by
  go_enter Tryd.func16, Tryd.ntmps16
  go_wp2_with fail
  refine (lex_any awText _ (by decide)).mono ?_
  rw [aw_lex]
  rintro e w1 ⟨v, rfl, hown, hb1⟩
  have ht := TokAt.of_own hown
  obtain ⟨A, c, rfl⟩ := own_form hown
  have ht3 := ht.take 3 (by decide)
  obtain ⟨A', c', hv, hc8, hA⟩ := ht
  injection hv with e1 e2 e3
  subst e1 e3
  obtain ⟨b, o, rfl, hb, hcs⟩ := hA (by decide)
  have k2 : w1.cell? ⟨b, o + 6, none⟩ = some (.int .i64 2) := (hcs 2 _ rfl).1
  have k4 : w1.cell? ⟨b, o + 12, none⟩ = some (.int .i64 3) := (hcs 4 _ rfl).1
  have p4 : w1.cell? ⟨b, o + 14, none⟩ = some (.int .i64 10) := (hcs 4 _ rfl).2.2
  have H3 := Lib.hid ht3
  clear hcs hown e2 hA ht3
  have hc8' : 8 ≤ c := hc8
  clear hc8
  have e8 : awToks.length = 8 := rfl
  go_wp2_with fail
  refine (isName_any [97] _ (by decide)).mono ?_
  rintro e w' ⟨rfl, rfl⟩
  rw [show Lfc.isName [97] = true by decide]
  go_wp2_with fail
  refine (isName_any [116, 121, 112, 101] _ (by decide)).mono ?_
  rintro e w' ⟨rfl, rfl⟩
  rw [show Lfc.isName [116, 121, 112, 101] = false by decide]
  go_wp2_with fail
  refine (isFree_any [78] _ (by decide)).mono ?_
  rintro e w' ⟨rfl, rfl⟩
  rw [show Lfc.isFree [78] = true by decide]
  go_wp2_with fail
  refine (isFree_any [110] _ (by decide)).mono ?_
  rintro e w' ⟨rfl, rfl⟩
  rw [show Lfc.isFree [110] = false by decide]
  go_wp2_with fail
  refine (spell_any _ _ _ H3.out (by decide) (by decide)).mono ?_
  rintro e w2 ⟨rfl, hb2⟩
  rw [show Lfc.spell (awToks.take 3) = [97, 32, 58, 32, 116, 121, 112, 101] by decide]
  go_wp2_with fail
  go_ret
  exact ⟨rfl, hb1.trans (hb2.mono hb1.size)⟩
end Go.Proofs.YtmdhkcefbkdkbaaDoor
