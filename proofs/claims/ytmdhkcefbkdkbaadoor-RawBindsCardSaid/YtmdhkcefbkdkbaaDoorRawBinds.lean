/- Contracts of sameNames (of lists that are the same) and of the closure of the law RawBinds. -/
import Derived.Test.YtmdhkcefbkdkbaaDoorRawMade
import Derived.Test.YtmdhkcefbkdkbaaDoorRawBindsP
set_option linter.unusedVariables false
set_option linter.unusedSimpArgs false
namespace Go.Proofs.YtmdhkcefbkdkbaaDoor
open Go.RowKit

set_option maxRecDepth 100000 in
set_option maxHeartbeats 1000000 in
theorem sameNames_any (l : List (List UInt8)) (A B : Option Addr) (c c' : Nat) (w : World) (hl : l.length ≤ 1000000000) (hA : NamesAt w A l) (hB : NamesAt w B l) :
    Calls Tryd.prog 34 #[.slice A l.length c, .slice B l.length c'] w fun e w' => e = .returned (.bool true) ∧ Below w.heap.size w w' := by
  have HA := Lib.hid hA
  have HB := Lib.hid hB
  clear hA hB
  have b0 : Below w.heap.size w w := Below.refl _ _
  go_enter Tryd.func34, Tryd.ntmps34
  go_wp2_with fail
  go_loopw [5] (fun i wr => ∃ k : Nat, k ≤ l.length ∧ i = .int .i64 k ∧ Below w.heap.size w wr) (fun i _ => l.length - (intOf i).toNat)
  case atStart => exact ⟨0, by omega, rfl, b0⟩
  case round =>
    obtain ⟨k, hk, rfl, hbw⟩ := hrel
    by_cases hlt : k < l.length
    · obtain ⟨b, o, rfl, hb, hcs⟩ := HA.out (by omega)
      obtain ⟨b', o', rfl, hb', hcs'⟩ := HB.out (by omega)
      have h1 := (hbw.cell (p := ⟨b, o + k, none⟩) hb).trans (hcs k hlt)
      have h2 := (hbw.cell (p := ⟨b', o' + k, none⟩) hb').trans (hcs' k hlt)
      generalize l[k] = x at *
      clear hcs hcs'
      have e1 : (0 : Int) ≤ (k : Int) := Int.natCast_nonneg _
      have e2 : (k : Int) < (l.length : Int) := by omega
      go_wp2_with fail
      refine wp_region_still_tail 8 (by kernel_rfl) (by kernel_rfl) ?_
      simp only [List.take_succ_cons, List.take_zero, List.drop_succ_cons, List.drop_zero]
      change wpStill Tryd.prog _ wr.drew _ _ _
      repeat still_step
      try refine wpStill_nil ?_
      change wpList _ _ _ _ _ wr.drew
      go_wp2_with fail
      go_roundw
      case rel => exact ⟨k + 1, by omega, by go_num, hbw.drew⟩
      case measure => simp [intOf]; omega
    · go_wp2_with fail
      go_ret
      exact ⟨rfl, hbw⟩

theorem enters_expl : ∀ args w, (callFunc 40 args).run Tryd.prog w = .ok (.enter 40 args) w := enters_of Tryd.func40 (by kernel_rfl) rfl
/-- The variables explicit, name, walk. -/
structure ExpI (w0 : World) (b bn : Nat) (x : List UInt8) (e : Bool) (w : World) : Prop where
  at_ : b = w0.heap.size
  bel : Below w0.heap.size w0 w
  ev : w.heap[b]? = some (.cells #[.bool e] 4 (0, 0))
  wv : w.heap[b + 1]? = some (.cells #[.func (.func 40) #[] #[.pointer (some ⟨b, 0, none⟩), .pointer (some ⟨bn, 0, none⟩), .pointer (some ⟨b + 1, 0, none⟩)]] 53 (0, 0))
  nlt : bn < w0.heap.size
  nm : w0.cell? ⟨bn, 0, none⟩ = some (S x)
theorem ExpI.lt {w0 w : World} {b bn : Nat} {x : List UInt8} {e : Bool} (h : ExpI w0 b bn x e w) : b + 2 ≤ w.heap.size := by have := lt_of_block h.wv; omega
theorem ExpI.new {w0 w w' : World} {b bn : Nat} {x : List UInt8} {e : Bool} (h : ExpI w0 b bn x e w) (hb : Below w.heap.size w w') : ExpI w0 b bn x e w' :=
  ⟨h.at_, h.bel.trans (hb.mono h.bel.size), (hb.block _ (lt_of_block h.ev)).trans h.ev, (hb.block _ (lt_of_block h.wv)).trans h.wv, h.nlt, h.nm⟩
theorem ExpI.set {w0 w : World} {b bn : Nat} {x : List UInt8} {e : Bool} (h : ExpI w0 b bn x e w) (e' : Bool) : ExpI w0 b bn x e' (w.setCell ⟨b, 0, none⟩ (.bool e')) :=
  ⟨h.at_, h.bel.setCell (p := ⟨b, 0, none⟩) (by have := h.at_; simp only; omega) _, one_setCell h.ev, (Below.heap_setCell _ _ _ _ (by show b + 1 ≠ b; omega)).trans h.wv, h.nlt, h.nm⟩
def ExplUpto (w0 : World) (b bn : Nat) (x : List UInt8) (m : Nat) : Prop := ∀ (t : Lfc.Raw) (v : Value) (w : World) (e : Bool), t.size ≤ m → t.size ≤ 1000 → TreeV w0 t v → ExpI w0 b bn x e w →
    Calls Tryd.prog 40 #[v, .pointer (some ⟨b, 0, none⟩), .pointer (some ⟨bn, 0, none⟩), .pointer (some ⟨b + 1, 0, none⟩)] w fun en w' => en = .returned (.tuple #[]) ∧ ExpI w0 b bn x (e || t.expl x) w' ∧ Oth b w w'

set_option maxRecDepth 100000 in
set_option maxHeartbeats 4000000 in
theorem expl_upto (w0 : World) (b bn : Nat) (x : List UInt8) (m : Nat) : ExplUpto w0 b bn x m := by
  induction m with
  | zero => intro t v w e h; have := t.size_pos; omega
  | succ m ih =>
    intro t v w e hsz hmax hv hI
    obtain ⟨k, n, p, ts⟩ := t
    have he := enters_expl
    obtain ⟨A, c, rfl, hc, hA⟩ := hv.open_
    have HA := Lib.hid hA
    have IH := Lib.hid ih
    simp only [Lfc.Raw.size] at hsz hmax
    have hlen := Lfc.Raw.sizes_len ts
    obtain ⟨wa, hwa⟩ : ∃ wa, w.alloc (.cells #[.int .i64 k, S n, .int .i64 p, .slice A ts.length c] 42) = wa := ⟨_, rfl⟩
    have ba : Below w.heap.size w wa := by rw [← hwa]; exact (Below.refl _ _).alloc (Nat.le_refl _) _
    have qa : wa.heap[w.heap.size]? = some (.cells #[.int .i64 k, S n, .int .i64 p, .slice A ts.length c] 42 (0, 0)) := by rw [← hwa]; exact heap_alloc_new _ _
    have HI := Lib.hid (hI.new ba)
    have hbw := hI.lt
    have QA := Lib.hid qa
    have BA := Lib.hid ba
    obtain ⟨a0, a1, a2, a3⟩ := cells4 qa
    have hev := cell_of_one HI.out.ev
    have hef := free_of_one HI.out.ev
    have hnm := (HI.out.bel.cell (p := ⟨bn, 0, none⟩) HI.out.nlt).trans HI.out.nm
    generalize hown : (decide (k = 2) && decide (n = x)) = own
    have HX : Hid (Lfc.Raw.expl x (.node k n p ts) = (own || Lfc.Raw.expls x ts)) := Lib.hid (by rw [Lfc.Raw.expl, hown])
    rw [HX.out]
    clear hv hA ih hI ba qa HX
    go_enter Tryd.func40, Tryd.ntmps40
    go_upto_region 1 with fail
    clear hwa
    go_cut [] (fun wx => Hid (ExpI w0 b bn x (e || own) wx ∧ wx.heap[w.heap.size]? = some (.cells #[.int .i64 k, S n, .int .i64 p, .slice A ts.length c] 42 (0, 0)) ∧ Oth b w wx))
    case first =>
      have fin : ∀ e', e' = (e || own) → Hid (ExpI w0 b bn x (e || own) (wa.setCell ⟨b, 0, none⟩ (.bool e')) ∧ (wa.setCell ⟨b, 0, none⟩ (.bool e')).heap[w.heap.size]? = some (.cells #[.int .i64 k, S n, .int .i64 p, .slice A ts.length c] 42 (0, 0)) ∧ Oth b w (wa.setCell ⟨b, 0, none⟩ (.bool e'))) := fun e' he' => by
        subst he'
        exact Lib.hid ⟨HI.out.set _, (Below.heap_setCell _ _ _ _ (by show w.heap.size ≠ b; omega)).trans QA.out, (Oth.of_below BA.out).trans (Oth.set _ _)⟩
      have FIN := Lib.hid fin
      clear fin
      have HOWN := Lib.hid hown
      clear hown
      cases e
      · by_cases hk : k = 2
        · by_cases hn : n = x
          · subst hk hn
            go_wp2_with fail
            go_meet
            exact FIN.out _ (by rw [← HOWN.out]; simp)
          · have hn2 : (n == x) = false := by simpa using hn
            subst hk
            go_wp2_with fail
            go_meet
            exact FIN.out _ (by rw [← HOWN.out]; simp [hn])
        · have hk2 : (k == 2) = false := by simpa using hk
          go_wp2_with fail
          go_meet
          exact FIN.out _ (by rw [← HOWN.out]; simp [hk])
      · go_wp2_with fail
        go_meet
        exact FIN.out _ (by simp)
    case rest =>
      clear hev hef hnm a0 a1 a2 a3
      go_wp2_with fail
      go_loopw [5] (fun i wr => ∃ j : Nat, j ≤ ts.length ∧ i = .int .i64 j ∧ Hid (ExpI w0 b bn x (e || own || Lfc.Raw.expls x (ts.take j)) wr ∧ wr.heap[w.heap.size]? = some (.cells #[.int .i64 k, S n, .int .i64 p, .slice A ts.length c] 42 (0, 0)) ∧ Oth b w wr)) (fun i _ => ts.length - (intOf i).toNat)
      case atStart => exact ⟨0, Nat.zero_le _, rfl, by simpa [Lfc.Raw.expls] using hcut⟩
      case round =>
        obtain ⟨j, hj, rfl, HR⟩ := hrel
        have x3 : wr.cell? ⟨w.heap.size, 3, none⟩ = some (.slice A ts.length c) := Lib.cell_of_heap HR.out.2.1 3
        by_cases hlt : j < ts.length
        · obtain ⟨b1, o, k1, n1, p1, us, B, c1, rfl, hb, ht, c0', c1', c2', c3', hcu, hB, hT⟩ := HA.out.at_ hlt
          have hbel := HR.out.1.bel
          have c0' := (hbel.cell (p := ⟨b1, _, none⟩) hb).trans c0'
          have c1' := (hbel.cell (p := ⟨b1, _, none⟩) hb).trans c1'
          have c2' := (hbel.cell (p := ⟨b1, _, none⟩) hb).trans c2'
          have c3' := (hbel.cell (p := ⟨b1, _, none⟩) hb).trans c3'
          have hw := cell_of_one HR.out.1.wv
          have hmem := Lfc.Raw.sizes_mem ts ts[j] (List.getElem_mem _)
          have HIH := Lib.hid (IH.out ts[j] _ wr.drew _ (by omega) (by omega) hT (HR.out.1.new (Below.refl _ _).drew))
          have HS := Lib.hid (Lfc.expls_take x ts j hlt)
          clear hB ht hT hbel
          go_wp2_with fail
          have e1 : (0 : Int) ≤ (j : Int) := Int.natCast_nonneg _
          have e2 : (j : Int) < (ts.length : Int) := by omega
          refine wp_region_still_tail 6 (by kernel_rfl) (by kernel_rfl) ?_
          simp only [List.take_succ_cons, List.take_zero, List.drop_succ_cons, List.drop_zero]
          change wpStill Tryd.prog _ wr.drew _ _ _
          repeat still_step
          try refine wpStill_nil ?_
          change wpList _ _ _ _ _ wr.drew
          go_wp2_with fail
          refine HIH.out.mono ?_
          rintro en w2 ⟨rfl, hi2, ho2⟩
          have hbw2 : b ≠ w.heap.size := by omega
          have H2 : Hid (ExpI w0 b bn x (e || own || Lfc.Raw.expls x (ts.take (j + 1))) w2 ∧ w2.heap[w.heap.size]? = some (.cells #[.int .i64 k, S n, .int .i64 p, .slice (some ⟨b1, o, none⟩) ts.length c] 42 (0, 0)) ∧ Oth b w w2) := by
            refine Lib.hid ⟨?_, ho2.heap HR.out.2.1 (Ne.symm hbw2), HR.out.2.2.trans ((Oth.refl _ _).drew.trans ho2)⟩
            rw [HS.out, ← Bool.or_assoc]
            exact hi2
          clear hi2 ho2
          go_wp2_with fail
          go_roundw
          case rel => exact ⟨j + 1, by omega, by go_num, H2⟩
          case measure => simp [intOf]; omega
        · have hjl : j = ts.length := by omega
          go_wp2_with fail
          go_end0
          have := HR.out
          rw [hjl, List.take_length, Bool.or_assoc] at this
          exact ⟨rfl, this.1, this.2.2⟩
end Go.Proofs.YtmdhkcefbkdkbaaDoor
