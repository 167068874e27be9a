/- The contract of the reference's free. -/
import Derived.Test.YtmdhkcefbkdkbaaDoorRawMade
set_option linter.unusedVariables false
set_option linter.unusedSimpArgs false
namespace Go.Proofs.YtmdhkcefbkdkbaaDoor
open Go.RowKit Go.Maps Go.WideMaps

/-- A row grows; its value turns from v to v'. -/
def GB (w : World) (v : Value) (w' : World) (v' : Value) : Prop := w.grownBy w' v.ownBlock ∧ (v'.ownBlock = v.ownBlock ∨ ∃ g, v'.ownBlock = some g ∧ w.heap.size ≤ g)
theorem GB.refl (w : World) (v : Value) : GB w v w v := ⟨⟨rfl, rfl, rfl, Nat.le_refl _, fun _ _ _ => rfl⟩, .inl rfl⟩
theorem GB.trans {w w1 w2 : World} {v v1 v2 : Value} (h : GB w v w1 v1) (h' : GB w1 v1 w2 v2) : GB w v w2 v2 := by
  refine ⟨⟨h'.1.os.trans h.1.os, h'.1.tape.trans h.1.tape, h'.1.output.trans h.1.output, Nat.le_trans h.1.size h'.1.size, fun k hk hn => ?_⟩, ?_⟩
  · refine (h'.1.block k (Nat.lt_of_lt_of_le hk h.1.size) (fun e => ?_)).trans (h.1.block k hk hn)
    rcases h.2 with h2 | ⟨g, h2, h3⟩
    · exact hn (e.trans h2)
    · have := Option.some.inj (e.trans h2); omega
  · rcases h'.2 with h2 | ⟨g, h2, h3⟩
    · rcases h.2 with h4 | ⟨g, h4, h5⟩
      · exact .inl (h2.trans h4)
      · exact .inr ⟨g, h2.trans h4, h5⟩
    · exact .inr ⟨g, h2, Nat.le_trans h.1.size h3⟩
theorem GB.new {w w1 : World} {v : Value} (h : Below w.heap.size w w1) : GB w v w1 v := ⟨only_of_below h _, .inl rfl⟩
theorem GB.heap {w w1 : World} {v v1 : Value} (h : GB w v w1 v1) {k : Nat} {o : Obj} (hk : w.heap[k]? = some o) (hn : v.ownBlock ≠ some k) : w1.heap[k]? = some o :=
  (h.1.block k (lt_of_block hk) (fun e => hn e.symm)).trans hk
/-- A slice of names whose block is not the row's. -/
def NamesB (w : World) (v : Value) (A : Option Addr) (l : List (List UInt8)) : Prop := 0 < l.length → ∃ b o, A = some ⟨b, o, none⟩ ∧ b < w.heap.size ∧ v.ownBlock ≠ some b ∧ ∀ k (h : k < l.length), w.cell? ⟨b, o + k, none⟩ = some (S l[k])
theorem NamesB.toAt {w : World} {v : Value} {A : Option Addr} {l : List (List UInt8)} (h : NamesB w v A l) : NamesAt w A l := fun hne => by
  obtain ⟨b, o, hA, hlt, _, hc⟩ := h hne
  exact ⟨b, o, hA, hlt, hc⟩
theorem NamesB.gb {w w' : World} {v v' : Value} {A : Option Addr} {l : List (List UInt8)} (h : NamesB w v A l) (hg : GB w v w' v') : NamesB w' v' A l := fun hne => by
  obtain ⟨b, o, hA, hlt, hn, hc⟩ := h hne
  refine ⟨b, o, hA, Nat.lt_of_lt_of_le hlt hg.1.size, fun e => ?_, fun k hk => (World.cell?_of_block (a := ⟨b, o + k, none⟩) (hg.1.block b hlt (fun e => hn e.symm))).trans (hc k hk)⟩
  rcases hg.2 with h2 | ⟨g, h2, h3⟩
  · exact hn (h2.symm.trans e)
  · have := Option.some.inj (h2.symm.trans e); omega
/-- The reference's binders leave the hole's name out. -/
def RelB (B' B : List (List UInt8)) : Prop := ∀ n, n ≠ [95] → (n ∈ B' ↔ n ∈ B)
theorem name_hole {n : List UInt8} (h : Lfc.isName n = true) : n ≠ [95] := fun e => by rw [e] at h; revert h; decide

def RFreeUpto (w0 : World) (m : Nat) : Prop := ∀ (t : Lfc.Raw) (v : Value) (w : World) (out B B' : List (List UInt8)) (vl : Value) (Ab : Option Addr) (cb : Nat), t.size ≤ m → t.form = true → TreeV w0 t v → Below w0.heap.size w0 w → w.ownsRow w0.heap.size 9 1 vl out.length (nameCells out) → NamesB w vl Ab B' → RelB B' B → out.length + B'.length + t.size ≤ 1000000000 →
    Calls Tryd.prog 65 #[vl, v, .slice Ab B'.length cb] w fun e w' => ∃ vl', e = .returned vl' ∧ w'.ownsRow w0.heap.size 9 1 vl' (Lfc.Raw.fr B t out).length (nameCells (Lfc.Raw.fr B t out)) ∧ GB w vl w' vl' ∧ Below w0.heap.size w0 w'

theorem own_namesR {w : World} {base c : Nat} {A : Option Addr} {l : List (List UInt8)} (h : w.ownsRow base 9 1 (.slice A l.length c) l.length (nameCells l)) : NamesAt w A l := fun hne => by
  rcases h.2 with ⟨_, h0⟩ | ⟨g, cap, cur, hv, hbg, hg, _, _, _, _⟩
  · omega
  · injection hv with e1 _ e3
    subst e1 e3
    refine ⟨g, 0, rfl, lt_of_block hg, fun k hk => ?_⟩
    rw [Nat.zero_add, h.cellAt k (by omega)]
    simp [nameCells, hk]
/-- A name is put behind the row. -/
theorem gb_push {w0 w wa w2 : World} {vl v' : Value} {out : List (List UInt8)} {n : List UInt8} (hb0 : Below w0.heap.size w0 w) (hba : Below w.heap.size w wa) (hown : wa.ownsRow w0.heap.size 9 1 vl out.length (nameCells out)) (hlt : ∀ g, vl.ownBlock = some g → g < w.heap.size)
    (hown2 : w2.ownsRow w0.heap.size 9 1 v' (out.length + 1) (nameCells out ++ [S n])) (hg2 : (wa.alloc (.cells #[S n] 9)).grownBy w2 vl.ownBlock) (hloc : v'.ownBlock = vl.ownBlock ∨ v'.ownBlock = some (wa.heap.size + 1)) :
    w2.ownsRow w0.heap.size 9 1 v' (out ++ [n]).length (nameCells (out ++ [n])) ∧ GB w vl w2 v' ∧ Below w0.heap.size w0 w2 := by
  have s1 := hba.size
  have e : nameCells (out ++ [n]) = nameCells out ++ [S n] := by simp [nameCells]
  have hba2 : Below w.heap.size w (wa.alloc (.cells #[S n] 9)) := hba.alloc s1 _
  refine ⟨by rw [e, List.length_append]; exact hown2, (GB.new hba2).trans ⟨hg2, ?_⟩, (hb0.trans (hba2.mono hb0.size)).grown hg2 (alloc_le (Nat.le_trans hb0.size s1)) (own_block_ge hown)⟩
  rcases hloc with h | h
  · exact .inl h
  · exact .inr ⟨_, h, by simp⟩

set_option maxRecDepth 100000 in
set_option maxHeartbeats 4000000 in
theorem rfree_leaf (w0 : World) (k p : Int) (n : List UInt8) (hk : k = 1 ∨ k = 2) (hn : Lfc.isName n = true) (v : Value) (w : World) (out B B' : List (List UInt8)) (vl : Value) (Ab : Option Addr) (cb : Nat) (hv : TreeV w0 (.node k n p []) v) (hb0 : Below w0.heap.size w0 w) (hown : w.ownsRow w0.heap.size 9 1 vl out.length (nameCells out)) (hB : NamesB w vl Ab B') (hR : RelB B' B) (hl : out.length + B'.length + 1 ≤ 1000000000) :
    Calls Tryd.prog 65 #[vl, v, .slice Ab B'.length cb] w fun e w' => ∃ vl', e = .returned vl' ∧ w'.ownsRow w0.heap.size 9 1 vl' (Lfc.Raw.fr B (.node k n p []) out).length (nameCells (Lfc.Raw.fr B (.node k n p []) out)) ∧ GB w vl w' vl' ∧ Below w0.heap.size w0 w' := by
  have hnn := hv.name_le
  obtain ⟨A, c, rfl, hc, hA⟩ := hv.open_
  simp only [List.length_nil]
  obtain ⟨Al, cl, rfl⟩ := own_form hown
  obtain ⟨wa, hwa⟩ : ∃ wa, w.alloc (.cells #[.int .i64 k, S n, .int .i64 p, .slice A 0 c] 42) = wa := ⟨_, rfl⟩
  have ba : Below w.heap.size w wa := by rw [← hwa]; exact (Below.refl _ _).alloc (Nat.le_refl _) _
  have qa : wa.heap[w.heap.size]? = some (.cells #[.int .i64 k, S n, .int .i64 p, .slice A 0 c] 42 (0, 0)) := by rw [← hwa]; exact heap_alloc_new _ _
  obtain ⟨x0, x1, x2, x3⟩ := cells4 qa
  have hba0 := hb0.trans (ba.mono hb0.size)
  have howna := own_below hown ba
  have HIL := Lib.hid (rIn_any out n Al cl wa (by omega) (own_namesR howna))
  have HIB := Lib.hid (rIn_any B' n Ab cb wa (by omega) (hB.gb (GB.new (v := .slice Al out.length cl) ba)).toAt)
  have hmB : decide (n ∈ B') = decide (n ∈ B) := by rw [Bool.eq_iff_iff]; simp only [decide_eq_true_eq]; exact hR n (name_hole hn)
  rw [hmB] at HIB
  have HO := Lib.hid howna
  have HB0 := Lib.hid hb0
  have HBA := Lib.hid ba
  have hlt : ∀ g, (Value.slice Al out.length cl).ownBlock = some g → g < w.heap.size := fun g e => (hown.lt g e).2
  have HLT := Lib.hid hlt
  have HBA0 := Lib.hid hba0
  obtain ⟨y0, hi, hz0, hz1', hz2'⟩ := info_string
  have hlm : out.length + 1 ≤ maxLen := by unfold maxLen; omega
  have hl16 : (out.length + 1) * 16 ≤ 140737488355328 := by omega
  have hbs := HBA0.out.size
  have hsame : ∀ r, r = out → ∃ vl', Ending.returned (.slice Al out.length cl) = .returned vl' ∧ wa.ownsRow w0.heap.size 9 1 vl' r.length (nameCells r) ∧ GB w (.slice Al out.length cl) wa vl' ∧ Below w0.heap.size w0 wa := fun r hr => by subst hr; exact ⟨_, rfl, HO.out, GB.new HBA.out, HBA0.out⟩
  have HSAME := Lib.hid hsame
  have hfr : Lfc.Raw.fr B (.node k n p []) out = if n ∈ out then out else if k = 1 ∧ n ∈ B then out else out ++ [n] := by
    rcases hk with rfl | rfl
    · rw [Lfc.Raw.fr, if_pos rfl]
      unfold Lfc.addN
      by_cases h1 : n ∈ B <;> by_cases h2 : n ∈ out <;> simp [h1, h2]
    · rw [Lfc.Raw.fr, if_neg (by decide), if_pos rfl]
      unfold Lfc.addN
      by_cases h2 : n ∈ out <;> simp [h2]
  rw [hfr]
  clear hfr hsame hlt hba0 ba hown howna hA hv hB hR hb0 hmB qa
  by_cases hm : n ∈ out
  · rw [if_pos hm]
    rw [decide_eq_true hm] at HIL
    clear hm
    rcases hk with rfl | rfl
    all_goals
      go_enter Tryd.func65, Tryd.ntmps65
      go_upto_region 1 with fail
      clear hwa
      go_wp2_with fail
      refine HIL.out.mono ?_
      rintro e w2 ⟨rfl, hw2⟩
      obtain rfl := hw2
      go_wp2_with fail
      go_ret
      exact HSAME.out _ rfl
  · rw [if_neg hm]
    rw [decide_eq_false hm] at HIL
    clear hm
    by_cases h1 : k = 1 ∧ n ∈ B
    · rw [if_pos h1]
      obtain ⟨rfl, h1⟩ := h1
      rw [decide_eq_true h1] at HIB
      clear h1 hk
      go_enter Tryd.func65, Tryd.ntmps65
      go_upto_region 1 with fail
      clear hwa
      go_wp2_with fail
      refine HIL.out.mono ?_
      rintro e w2 ⟨rfl, hw2⟩
      obtain rfl := hw2
      go_wp2_with fail
      refine HIB.out.mono ?_
      rintro e w2 ⟨rfl, hw2⟩
      obtain rfl := hw2
      go_wp2_with fail
      go_ret
      exact HSAME.out _ rfl
    · rw [if_neg h1]
      rcases hk with rfl | rfl
      · have h2 : n ∉ B := fun h => h1 ⟨rfl, h⟩
        rw [decide_eq_false h2] at HIB
        clear h1 h2
        go_enter Tryd.func65, Tryd.ntmps65
        go_upto_region 1 with fail
        clear hwa
        go_wp2_with fail
        refine HIL.out.mono ?_
        rintro e w2 ⟨rfl, hw2⟩
        obtain rfl := hw2
        go_wp2_with fail
        refine HIB.out.mono ?_
        rintro e w2 ⟨rfl, hw2⟩
        obtain rfl := hw2
        go_wp2_with (at_builtin; refine wpList_append_own_at _ rfl _ _ 38 rfl w0.heap.size 9 y0 (S []) 1 16 Tryd.underlying38 hi hz0 hz1' hz2' rfl (by decide) _ _ _ rfl (HO.out.alloc _) ⟨wa.heap.size, 0, none⟩ 1 1 [S n] rfl rfl (cell_one_new _ _ _) (by intro u hu; simp at hu; subst hu; rfl) hlm hl16 (alloc_le hbs) ?_)
        intro v' w2 hown2 hg2 _ hloc2
        have FIN := Lib.hid (gb_push HB0.out HBA.out HO.out HLT.out hown2 hg2 (by simpa using hloc2))
        clear hown2 hg2 hloc2
        go_wp2_with fail
        go_ret
        exact ⟨_, rfl, FIN.out⟩
      · clear h1
        go_enter Tryd.func65, Tryd.ntmps65
        go_upto_region 1 with fail
        clear hwa
        go_wp2_with fail
        refine HIL.out.mono ?_
        rintro e w2 ⟨rfl, hw2⟩
        obtain rfl := hw2
        go_wp2_with (at_builtin; refine wpList_append_own_at _ rfl _ _ 38 rfl w0.heap.size 9 y0 (S []) 1 16 Tryd.underlying38 hi hz0 hz1' hz2' rfl (by decide) _ _ _ rfl (HO.out.alloc _) ⟨wa.heap.size, 0, none⟩ 1 1 [S n] rfl rfl (cell_one_new _ _ _) (by intro u hu; simp at hu; subst hu; rfl) hlm hl16 (alloc_le hbs) ?_)
        intro v' w2 hown2 hg2 _ hloc2
        have FIN := Lib.hid (gb_push HB0.out HBA.out HO.out HLT.out hown2 hg2 (by simpa using hloc2))
        clear hown2 hg2 hloc2
        go_wp2_with fail
        go_ret
        exact ⟨_, rfl, FIN.out⟩
end Go.Proofs.YtmdhkcefbkdkbaaDoor
