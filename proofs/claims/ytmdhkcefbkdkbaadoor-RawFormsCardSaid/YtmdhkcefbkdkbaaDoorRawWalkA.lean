/- The walk of the law RawSame. -/
import Derived.Test.YtmdhkcefbkdkbaaDoorRawTree
import Derived.Test.YtmdhkcefbkdkbaaDoorFrame
set_option linter.unusedVariables false
set_option linter.unusedSimpArgs false
namespace Lfc
mutual
theorem same_refl (at_ : Bool) : ∀ t : Raw, Raw.same at_ t t = true
  | .node k n p ts => by simp [Raw.same, sames_refl at_ ts]
theorem sames_refl (at_ : Bool) : ∀ ts : List Raw, Raw.sames at_ ts ts = true
  | [] => rfl
  | a :: r => by simp [Raw.sames, same_refl at_ a, sames_refl at_ r]
end
mutual
theorem same_symm : ∀ a b : Raw, Raw.same false a b = Raw.same false b a
  | .node k n p ts, .node k' n' p' ts' => by
    simp only [Raw.same, sames_symm ts ts', eq_comm (a := k), eq_comm (a := n)]
    simp
theorem sames_symm : ∀ a b : List Raw, Raw.sames false a b = Raw.sames false b a
  | [], [] => rfl
  | [], _ :: _ => rfl
  | _ :: _, [] => rfl
  | a :: r, a' :: r' => by simp only [Raw.sames, same_symm a a', sames_symm r r']
end
end Lfc
namespace Go.Proofs.YtmdhkcefbkdkbaaDoor
open Go.RowKit

def wordsName : String := Rows.rawSameRow.named.headD default
theorem gWords : Tryd.prog.globalNamed wordsName = some 1 := by kernel_rfl
theorem gWordsType : (Tryd.prog.globals[1]?).map (·.type) = some 38 := by kernel_rfl
def wordsLaid : List (String × DataW Unit) := [(wordsName, Rows.laid_lfcheck_lfcheckmade_words)]
theorem words_datum {H : Type} : (Rows.laid_lfcheck_lfcheckmade_words : DataW H) = .slice (Lfc.words.map fun l => .lit (.string l)) [] := rfl
theorem wordsAt_of {W : World} (h : laidMetH Tryd.prog wordsLaid W) : WordsAt W := by
  rw [MakeChecks.laidMetH_plain _ _ _ (by kernel_rfl)] at h
  obtain ⟨ps, ⟨g0, t0, cs0, f0, p0, q0, hg0, ht0, hv0, hd0, _⟩, _⟩ := h
  obtain rfl := Option.some.inj (gWords.symm.trans hg0)
  obtain rfl := Option.some.inj (gWordsType.symm.trans ht0)
  rw [words_datum] at hd0
  obtain ⟨a, cap, hcs, hcap, hel⟩ := open_row Tryd.underlying38 (by kernel_rfl) hd0
  obtain ⟨b, o, spot⟩ := a
  have each : ∀ k, k < 13 → W.cell? ((⟨b, o, spot⟩ : Addr).add k) = some (S (Lfc.words.getD k [])) := by
    intro k hk
    have hk' : k < Lfc.words.length := hk
    obtain ⟨v, n, q, hc, ht⟩ := hel k (.lit (.string Lfc.words[k])) (by rw [List.getElem?_map, List.getElem?_eq_getElem hk']; rfl)
    obtain ⟨s, hs, hx, _⟩ := DataW.trod_string Tryd.underlying9 ht
    simp only [List.cons.injEq, and_true] at hs
    subst hs
    simp only [Prod.mk.injEq, DataW.lit.injEq, Lit.string.injEq] at hx
    rw [hc, List.getD_eq_getElem?_getD, List.getElem?_eq_getElem hk', Option.getD_some, hx.1]
  have hspot : spot = none := by simpa [Addr.add] using World.cell?_spot (each 0 (by decide))
  subst hspot
  have hcell : W.cell? ⟨1, 0, none⟩ = some (.slice (some ⟨b, o, none⟩) 13 cap) := by
    have := World.var?_cell hg0 hv0 0
    rw [Array.eq_one_of_toList hcs, List.length_map, show Lfc.words.length = 13 from rfl] at this
    simpa using this
  have each' : ∀ k, k < 13 → W.cell? ⟨b, o + k, none⟩ = some (S (Lfc.words.getD k [])) := fun k hk => by
    rw [← Go.WideShapes.add_plain]; exact each k hk
  exact ⟨b, o, cap, hcell, lt_of_cell (each' 0 (by decide)), lt_of_cell hcell, each'⟩

/-- Two trees in two variables. -/
theorem two_vars {w3 : World} {k1 p1 k2 p2 : Int} {n1 n2 : List UInt8} {ts1 ts2 : List Lfc.Raw} {A1 A2 : Option Addr} {c1 c2 : Nat} (h1 : TreeV w3 (.node k1 n1 p1 ts1) (.agg #[.int .i64 k1, S n1, .int .i64 p1, .slice A1 ts1.length c1])) (h2 : TreeV w3 (.node k2 n2 p2 ts2) (.agg #[.int .i64 k2, S n2, .int .i64 p2, .slice A2 ts2.length c2])) :
    ∃ w4, (w3.alloc (.cells #[.int .i64 k1, S n1, .int .i64 p1, .slice A1 ts1.length c1] 42)).alloc (.cells #[.int .i64 k2, S n2, .int .i64 p2, .slice A2 ts2.length c2] 42) = w4 ∧ Below w3.heap.size w3 w4 ∧
      ∀ W, Below w4.heap.size w4 W → TreeV W (.node k1 n1 p1 ts1) (.agg #[.int .i64 k1, S n1, .int .i64 p1, .slice A1 ts1.length c1]) ∧ TreeV W (.node k2 n2 p2 ts2) (.agg #[.int .i64 k2, S n2, .int .i64 p2, .slice A2 ts2.length c2]) ∧
        (W.cell? ⟨w3.heap.size, 0, none⟩ = some (.int .i64 k1) ∧ W.cell? ⟨w3.heap.size, 1, none⟩ = some (S n1) ∧ W.cell? ⟨w3.heap.size, 2, none⟩ = some (.int .i64 p1) ∧ W.cell? ⟨w3.heap.size, 3, none⟩ = some (.slice A1 ts1.length c1)) ∧
        (W.cell? ⟨w3.heap.size + 1, 0, none⟩ = some (.int .i64 k2) ∧ W.cell? ⟨w3.heap.size + 1, 1, none⟩ = some (S n2) ∧ W.cell? ⟨w3.heap.size + 1, 2, none⟩ = some (.int .i64 p2) ∧ W.cell? ⟨w3.heap.size + 1, 3, none⟩ = some (.slice A2 ts2.length c2)) := by
  refine ⟨_, rfl, ((Below.refl _ _).alloc (Nat.le_refl _) _).alloc (by simp) _, fun W hb => ?_⟩
  have b3 : Below w3.heap.size w3 W := ((((Below.refl _ _).alloc (Nat.le_refl _) _).alloc (by simp) _)).trans (hb.mono (by simp; omega))
  have q1 := (hb.block w3.heap.size (by simp; omega)).trans (heap_alloc_old _ (.cells #[.int .i64 k2, S n2, .int .i64 p2, .slice A2 ts2.length c2] 42) _ _ (heap_alloc_new w3 (.cells #[.int .i64 k1, S n1, .int .i64 p1, .slice A1 ts1.length c1] 42)))
  have q2 := hb.block (w3.heap.size + 1) (by simp)
  have q3 := heap_alloc_new (w3.alloc (.cells #[.int .i64 k1, S n1, .int .i64 p1, .slice A1 ts1.length c1] 42)) (.cells #[.int .i64 k2, S n2, .int .i64 p2, .slice A2 ts2.length c2] 42)
  rw [show (w3.alloc (.cells #[.int .i64 k1, S n1, .int .i64 p1, .slice A1 ts1.length c1] 42)).heap.size = w3.heap.size + 1 by simp] at q3
  exact ⟨h1.below b3, h2.below b3, cells4 q1, cells4 (q2.trans q3)⟩
theorem TreeV.node {w : World} {t : Lfc.Raw} {v : Value} (h : TreeV w t v) : ∃ k n p ts A c, t = .node k n p ts ∧ v = .agg #[.int .i64 k, S n, .int .i64 p, .slice A ts.length c] := by
  obtain ⟨k, n, p, ts⟩ := t
  obtain ⟨A, c, rfl, _⟩ := h.open_
  exact ⟨k, n, p, ts, A, c, rfl, rfl⟩

set_option maxRecDepth 100000 in
set_option maxHeartbeats 4000000 in
theorem rawSame_walk (v0 v1 v2 : Value) (z0 z1 z2 : List Int) (w : World) (i0 : IntsAt w v0 z0) (i1 : IntsAt w v1 z1) (i2 : IntsAt w v2 z2) (hw : WordsAt w) :
    Calls Tryd.prog 11 #[v0, v1, v2] w fun e w' => e = .returned (.bool true) ∧ Below w.heap.size w w' := by
  have C1 := Lib.hid (tree_any v0 v1 z0 z1 w i0 i1 hw)
  have C2 := Lib.hid (fun w1 hb => tree_any v0 v2 z0 z2 w1 (i0.below hb) (i2.below hb) (hw.below hb))
  clear i0 i1 i2 hw
  go_enter Tryd.func11, Tryd.ntmps11
  go_wp2_with fail
  refine C1.out.mono ?_
  rintro e w1 ⟨⟨t1, x1, rfl, hv1, hs1, _⟩, b1⟩
  go_wp2_with fail
  refine (C2.out w1 b1).mono ?_
  rintro e w2 ⟨⟨t2, x2, rfl, hv2, hs2, _⟩, b2⟩
  obtain ⟨k1, n1, p1, ts1, A1, c1, ht1, rfl⟩ := hv1.node
  obtain ⟨k2, n2, p2, ts2, A2, c2, ht2, rfl⟩ := hv2.node
  have hv1 := hv1.below b2
  rw [ht1] at hv1 hs1
  rw [ht2] at hv2 hs2
  obtain ⟨w4, hw4, b4, F⟩ := two_vars hv1 hv2
  have hb14 : Below w.heap.size w w4 := b1.trans ((b2.mono b1.size).trans (b4.mono (Nat.le_trans b1.size b2.size)))
  have hsame := Lfc.same_symm (.node k2 n2 p2 ts2) (.node k1 n1 p1 ts1)
  have hrefl := Lfc.same_refl false (.node k1 n1 p1 ts1)
  generalize hT1 : Lfc.Raw.node k1 n1 p1 ts1 = T1 at *
  generalize hT2 : Lfc.Raw.node k2 n2 p2 ts2 = T2 at *
  have D1 := Lib.hid (fun W (hb : Below w4.heap.size w4 W) => same_upto 1000 (by omega) T1 T2 _ _ W (by omega) (F W hb).1 (F W hb).2.1)
  have D2 := Lib.hid (fun W (hb : Below w4.heap.size w4 W) => rSame_any false T1 T2 _ _ W (by omega) (F W hb).1 (F W hb).2.1)
  have D3 := Lib.hid (fun W (hb : Below w4.heap.size w4 W) => same_upto 1000 (by omega) T1 T1 _ _ W (by omega) (F W hb).1 (F W hb).1)
  have D4 := Lib.hid (fun W (hb : Below w4.heap.size w4 W) => same_upto 1000 (by omega) T2 T1 _ _ W (by omega) (F W hb).2.1 (F W hb).1)
  rw [hrefl] at D3
  rw [hsame] at D4
  generalize Lfc.Raw.same false T1 T2 = s at *
  have FF := Lib.hid (fun W (hb : Below w4.heap.size w4 W) => (F W hb).2.2)
  have B4 := Lib.hid hb14
  have G0 : Below w4.heap.size w4 w4.drew := (Below.refl _ _).drew
  clear hT1 hT2 hsame hrefl F hv1 hv2 b1 b2 b4 C1 C2 hb14 ht1 ht2 hs1 hs2
  go_upto_region 2 with fail
  clear hw4
  have aa : ∀ W W', Below w4.heap.size w4 W → Below W.heap.size W W' → Below w4.heap.size w4 W' := fun W W' h h' => h.trans (h'.mono h.size)
  cases s
  all_goals
    go_region_held3 (fun w' => (w'.cell? ⟨w2.heap.size, 0, none⟩ = some (.int .i64 k1) ∧ w'.cell? ⟨w2.heap.size, 1, none⟩ = some (S n1) ∧ w'.cell? ⟨w2.heap.size, 2, none⟩ = some (.int .i64 p1) ∧ w'.cell? ⟨w2.heap.size, 3, none⟩ = some (.slice A1 ts1.length c1)) ∧
          (w'.cell? ⟨w2.heap.size + 1, 0, none⟩ = some (.int .i64 k2) ∧ w'.cell? ⟨w2.heap.size + 1, 1, none⟩ = some (S n2) ∧ w'.cell? ⟨w2.heap.size + 1, 2, none⟩ = some (.int .i64 p2) ∧ w'.cell? ⟨w2.heap.size + 1, 3, none⟩ = some (.slice A2 ts2.length c2)))
      (first | exact FF.out _ G0 | (refine FF.out _ ?_; assumption))
      (first
        | (go_at_call 39; (with_reducible refine (D2.out _ ?_).mono ?_); assumption; rintro e w9 ⟨rfl, hb9'⟩; have hb9 := aa _ _ (by assumption) hb9')
        | (go_at_call 38; (with_reducible refine (D1.out _ ?_).mono ?_); assumption; rintro e w8 ⟨rfl, hb8'⟩; have hb8 := aa _ _ (by assumption) hb8')
        | (go_at_call 38; (with_reducible refine (D3.out _ ?_).mono ?_); assumption; rintro e w7 ⟨rfl, hb7'⟩; have hb7 := aa _ _ (by assumption) hb7')
        | (go_at_call 38; (with_reducible refine (D4.out _ ?_).mono ?_); assumption; rintro e w6 ⟨rfl, hb6'⟩; have hb6 := aa _ _ (by assumption) hb6')
        | (go_at_call 37; refine (awake2_any _).mono ?_; rintro e w5 ⟨rfl, hb5'⟩; have hb5 := aa _ _ (by assumption) hb5'))
    all_goals
      go_wp2_with fail
      go_ret
      exact ⟨rfl, B4.out.trans (hb5.mono B4.out.size)⟩
end Go.Proofs.YtmdhkcefbkdkbaaDoor
