/- Parts of the proof: OpSz, OpTop, OpAdd, OpAwake. -/
import Derived.Test.YtkhfnkokdmoipaaDoorOpP
import Derived.Test.YtkhfnkokdmoipaaDoorOpM2
import Derived.Test.YtkhfnkokdmoipaaDoorOpM3
import Derived.Test.YtkhfnkokdmoipaaDoorOpClone
import Derived.Test.YtkhfnkokdmoipaaDoorRawRf
/- How large a resolved tree can be. No program in sight. -/
set_option linter.unusedVariables false
set_option linter.unusedSimpArgs false
namespace Lfc
def wsum : List Opd → Nat
  | [] => 0
  | x :: r => x.tree.size + 2 + wsum r
def psum : List Raw → Nat
  | [] => 0
  | x :: r => x.size + psum r
def osum : List Raw → Nat
  | [] => 0
  | x :: r => x.size + 2 + osum r
def ssum : List (List Opd) → Nat
  | [] => 0
  | x :: r => wsum x + ssum r
theorem wsum_app : ∀ a b : List Opd, wsum (a ++ b) = wsum a + wsum b
  | [], b => by simp [wsum]
  | x :: r, b => by rw [List.cons_append, wsum, wsum, wsum_app r b]; omega
theorem appT_size (f a : Raw) : (appT f a).size = f.size + a.size + 1 := by
  unfold appT
  simp only [Raw.size, Raw.sizes]
  omega
theorem joinT_size (o a b : Raw) : (joinT o a b).size ≤ o.size + a.size + b.size + 2 := by
  have := o.size_pos
  unfold joinT
  split
  · simp only [Raw.size, Raw.sizes]; omega
  · split
    · simp only [Raw.size, Raw.sizes]; omega
    · rw [appT_size, appT_size]; omega
theorem fold_size : ∀ (s : List Opd) (t : Raw), (s.foldl (fun t x => appT t x.tree) t).size ≤ t.size + wsum s
  | [], t => by simp [wsum]
  | x :: r, t => by
    rw [List.foldl_cons]
    have := fold_size r (appT t x.tree)
    rw [appT_size] at this
    rw [wsum]
    omega
theorem appAll_size (s : List Opd) (h : 0 < s.length) : (appAll s).size ≤ wsum s := by
  cases s with
  | nil => simp at h
  | cons x r =>
    have := fold_size r x.tree
    simp only [appAll, List.drop_succ_cons, List.drop_zero, List.getD_cons_zero, wsum]
    omega
theorem joinR_size (z : Raw) : ∀ (ops parts : List Raw), parts.length = ops.length + 1 → (joinR z ops parts).size ≤ psum parts + osum ops
  | [], [p], _ => by simp [joinR, psum, osum]
  | o :: os, p :: ps, h => by
    rw [joinR]
    have h1 := joinT_size o p (joinR z os ps)
    have h2 := joinR_size z os ps (by simpa using h)
    rw [psum, osum]
    omega
  | [], [], h => by simp at h
  | [], _ :: _ :: _, h => by simp at h
  | _ :: _, [], h => by simp at h
theorem joinL_size : ∀ (ops parts : List Raw) (t : Raw), (joinL t (ops.zip parts)).size ≤ t.size + psum parts + osum ops
  | [], parts, t => by simp only [joinL, List.zip_nil_left, List.foldl_nil]; omega
  | o :: os, [], t => by simp only [joinL, List.zip_nil_right, List.foldl_nil]; omega
  | o :: os, p :: ps, t => by
    have h1 := joinT_size o t p
    have h2 := joinL_size os ps (joinT o t p)
    simp only [joinL, List.zip_cons_cons, List.foldl_cons] at h2 ⊢
    rw [psum, osum]
    omega
theorem joined_size (fix : Int) (ops parts : List Raw) (h : parts.length = ops.length + 1) : (joined fix ops parts).size ≤ psum parts + osum ops := by
  unfold joined
  split
  · exact joinR_size _ _ _ h
  · cases parts with
    | nil => simp at h
    | cons p ps =>
      have := joinL_size ops ps p
      simpa [psum, Nat.add_assoc] using this
theorem allOk_size {g : List Opd → Except Int Raw} (hg : ∀ s t, g s = .ok t → t.size ≤ wsum s) : ∀ (l : List (List Opd)) (parts : List Raw), allOk g l = .ok parts → psum parts ≤ ssum l ∧ parts.length = l.length
  | [], parts, h => by
    rw [allOk] at h
    cases h
    simp [psum, ssum]
  | x :: r, parts, h => by
    rw [allOk] at h
    cases hx : g x with
    | error e => rw [hx] at h; cases h
    | ok t =>
      rw [hx] at h
      simp only at h
      cases hr : allOk g r with
      | error e => rw [hr] at h; cases h
      | ok ts =>
        rw [hr] at h
        cases h
        have h1 := allOk_size hg r ts hr
        have h2 := hg x t hx
        rw [psum, ssum]
        simp only [List.length_cons]
        omega
theorem segs_len (s : List Opd) : ∀ (E : List Nat) (b : Nat), (segs s b E).length = E.length
  | [], _ => rfl
  | e :: r, b => by rw [segs, List.length_cons, List.length_cons, segs_len s r]
theorem segs_sum (s : List Opd) : ∀ (at_ : List Nat) (b : Nat), at_.Pairwise (· < ·) → (∀ i ∈ at_, b ≤ i ∧ i < s.length) → ssum (segs s b (at_ ++ [s.length])) + osum (opTrees s at_) = wsum (s.drop b)
  | [], b, _, _ => by simp [segs, ssum, opTrees, osum, List.take_length]
  | e :: r, b, hp, hb => by
    rw [List.pairwise_cons] at hp
    have he := hb e List.mem_cons_self
    have ih := segs_sum s r (e + 1) hp.2 (fun i hi => ⟨hp.1 i hi, (hb i (List.mem_cons_of_mem _ hi)).2⟩)
    rw [List.cons_append, segs, ssum]
    have e1 : opTrees s (e :: r) = (s.getD e opdZ).tree :: opTrees s r := rfl
    rw [e1, osum]
    have e2 : s.drop b = (s.take e).drop b ++ s.drop e := by
      rw [← List.drop_append_of_le_length (by rw [List.length_take]; omega), List.take_append_drop]
    have e3 : s.drop e = s[e] :: s.drop (e + 1) := List.drop_eq_getElem_cons he.2
    have e4 : s.getD e opdZ = s[e] := by simp [he.2]
    rw [e2, e3, wsum_app, wsum, e4]
    omega
theorem wsum_part (s : List Opd) (b e : Nat) : wsum ((s.take e).drop b) ≤ wsum s := by
  have h1 : wsum s = wsum (s.take e) + wsum (s.drop e) := by rw [← wsum_app, List.take_append_drop]
  have h2 : wsum (s.take e) = wsum ((s.take e).take b) + wsum ((s.take e).drop b) := by rw [← wsum_app, List.take_append_drop]
  omega
theorem wsum_get (s : List Opd) (i : Nat) (h : i < s.length) : wsum s = wsum (s.take i) + (s[i].tree.size + 2) + wsum (s.drop (i + 1)) := by
  have h1 : wsum s = wsum (s.take i) + wsum (s.drop i) := by rw [← wsum_app, List.take_append_drop]
  rw [h1, List.drop_eq_getElem_cons h, wsum]
  omega
theorem resP_size (l : List Op) : ∀ (m : Nat) (s : List Opd) (t : Raw), resP l m s = .ok t → t.size ≤ wsum s
  | 0, s, t, h => by rw [resP] at h; cases h
  | m + 1, s, t, h => by
    have ih := resP_size l m
    by_cases h0 : s.length = 0
    · have : resP l (m + 1) s = .error 21 := if_pos h0
      rw [this] at h
      cases h
    have e0 : resP l (m + 1) s = resBody l (resP l m) s := if_neg h0
    rw [e0] at h
    unfold resBody at h
    have hpl := low_at l s
    generalize low l s = L at *
    split at h
    · cases h; exact appAll_size s (by omega)
    rename_i hat
    split at h
    · cases h
    split at h
    · unfold unT at h
      by_cases hth : L.at_.getD 0 0 = 0
      · simp only [hth] at h
        cases hr : resP l m (s.drop 1) with
        | error e => rw [hr] at h; cases h
        | ok t1 =>
          rw [hr] at h
          cases h
          have h1 := ih _ _ hr
          have h2 := wsum_get s 0 (by omega)
          have e1 : s.getD 0 opdZ = s[0] := by simp [show 0 < s.length by omega]
          rw [appT_size, e1]
          simp only [List.take_zero, wsum, Nat.zero_add] at h2
          omega
      · rw [decide_eq_false hth] at h; simp at h
    split at h
    · unfold unT at h
      by_cases hth : lastOf L.at_ = s.length - 1
      · simp only [hth] at h
        cases hr : resP l m (s.take (s.length - 1)) with
        | error e => rw [hr] at h; cases h
        | ok t1 =>
          rw [hr] at h
          cases h
          have h1 := ih _ _ hr
          have hl : s.length - 1 < s.length := by omega
          have h2 := wsum_get s (s.length - 1) hl
          have e1 : s.getD (s.length - 1) opdZ = s[s.length - 1] := by simp [hl]
          rw [appT_size, e1]
          omega
      · rw [decide_eq_false hth] at h; simp at h
    split at h
    · cases h
    unfold binT at h
    cases hr : allOk (resP l m) (segs s 0 (L.at_ ++ [s.length])) with
    | error e => rw [hr] at h; cases h
    | ok parts =>
      rw [hr] at h
      cases h
      have h1 := allOk_size ih _ _ hr
      rw [segs_len] at h1
      have h2 := segs_sum s L.at_ 0 hpl.1 (fun i hi => ⟨Nat.zero_le _, hpl.2 i hi⟩)
      have h3 := joined_size L.first.fix (opTrees s L.at_) parts (by rw [h1.2]; simp [opTrees])
      rw [List.drop_zero] at h2
      omega
end Lfc

/- operator.Resolve. -/
set_option linter.unusedVariables false
set_option linter.unusedSimpArgs false
namespace Lfc
theorem wsum_mem (s : List Opd) (x : Opd) (h : x ∈ s) : x.tree.size + 2 ≤ wsum s := by
  induction s with
  | nil => cases h
  | cons a r ih =>
    rw [wsum]
    rcases List.mem_cons.1 h with rfl | h
    · omega
    · have := ih h; omega
def resTail (l : List Op) (s : List Opd) : Raw × Int :=
  if s.length = 1 then (if (s.getD 0 opdZ).arrow then (rawZ, 21) else ((s.getD 0 opdZ).tree, 0))
  else match resP l s.length s with
    | .error e => (rawZ, e)
    | .ok t => if t.wf = 0 then (t, 0) else (rawZ, 2)
theorem resolved_tail (l : List Op) (s : List Opd) : resolved l s = if l.any (fun o => decide (o.bad ≠ 0)) then (rawZ, 1) else if s.any (fun x => !x.arrow && decide (x.tree.wf = 1)) then (rawZ, 1) else if s.any (fun x => !x.arrow && decide (x.tree.wf = 2)) then (rawZ, 2) else resTail l s := rfl
end Lfc
namespace Go.Proofs.YtkhfnkokdmoipaaDoor
open Go.RowKit Go.Maps Go.WideMaps

/-- Resolve's resolver while its map is filled. -/
structure TopI (w : World) (R Rb Mb : Nat) (g : List UInt8 → Option Lfc.Op) (n : Nat) (wr : World) : Prop where
  bel : Below w.heap.size w wr
  res : wr.heap[R]? = some (.cells #[.int .i64 0, S [], .int .i64 0, .slice none 0 0] 39 (0, 0))
  rs : wr.heap[Rb]? = some (.cells #[.map (some Mb), .int .i64 0] 68 (0, 0))
  map : OpMap wr Mb n g
theorem TopI.new {w wr w' : World} {R Rb Mb n : Nat} {g : List UInt8 → Option Lfc.Op} (h : TopI w R Rb Mb g n wr) (hb : Below wr.heap.size wr w') : TopI w R Rb Mb g n w' :=
  ⟨h.bel.trans (hb.mono h.bel.size), (hb.block _ (lt_of_block h.res)).trans h.res, (hb.block _ (lt_of_block h.rs)).trans h.rs, h.map.kept (Oth.of_below (T := w'.heap.size + wr.heap.size + Mb + 1) hb) (fun e => by have := Option.some.inj e; omega)⟩

set_option maxRecDepth 100000 in
set_option maxHeartbeats 2000000 in
theorem resolve_bad (q : Nat → Prop) (l : List Lfc.Op) (s : List Lfc.Opd) (Al As : Option Addr) (cl cs : Nat) (w : World) (hll : l.length ≤ 1000000) (hl : OpsAt w Al l) (hbad : l.any (fun o => decide (o.bad ≠ 0)) = true) :
    Calls Tryd.prog 16 #[.slice Al l.length cl, .slice As s.length cs] w fun e w' => (∃ v, e = .returned (.tuple #[v, .int .i64 (Lfc.resolved l s).2]) ∧ TreeVP q w' (Lfc.resolved l s).1 v) ∧ Below w.heap.size w w' := by
  have HRES : Hid (Lfc.resolved l s = (Lfc.rawZ, 1)) := Lib.hid (if_pos hbad)
  have he := enters_res1
  obtain ⟨wa, hwa⟩ : ∃ wa, w.alloc (.cells #[.int .i64 0, S [], .int .i64 0, .slice none 0 0] 39) = wa := ⟨_, rfl⟩
  have ba : Below w.heap.size w wa := by rw [← hwa]; exact (Below.refl _ _).alloc (Nat.le_refl _) _
  have qr : wa.heap[w.heap.size]? = some (.cells #[.int .i64 0, S [], .int .i64 0, .slice none 0 0] 39 (0, 0)) := by rw [← hwa]; exact heap_alloc_new _ _
  have C1 := Lib.hid (contains_res1 l Al cl wa (by omega) (hl.below ba))
  rw [hbad] at C1
  have BA := Lib.hid ba
  have QR := Lib.hid qr
  clear hl ba qr hbad
  go_enter Tryd.func16, Tryd.ntmps16
  go_upto_region 1 with fail
  clear hwa
  go_wp2_with fail
  refine C1.out.mono ?_
  rintro e w1 ⟨rfl, b1⟩
  have bw := BA.out.trans (b1.mono BA.out.size)
  have qr1 := (b1.block _ (lt_of_block QR.out)).trans QR.out
  obtain ⟨s1, s2, s3, s4, g1, g2, g3, g4, ⟨y0, y1, y2, y3⟩, ⟨f0, f1, f2, f3⟩, hq, ho⟩ := put4 qr1 (.int .i64 0) (S []) (.int .i64 0) (.slice none 0 0)
  have HO4 := Lib.hid ho
  have HB := Lib.hid (Oth.below bw ho (Nat.le_refl _) bw.size)
  have HQ := Lib.hid hq
  clear hq ho
  clear qr1 b1 bw
  go_wp2_with fail
  refine bodyPost_ret (results_raw2 rfl _ _ _ _ _ _ _ rfl HQ.out) rfl ?_
  rw [HRES.out]
  exact ⟨⟨_, rfl, (treeV_nil _ _ _ _ (by simp)).leafP⟩, HB.out⟩

theorem cells2 {W : World} {g : Nat} {v0 v1 : Value} {t : TypeId} (h : W.heap[g]? = some (.cells #[v0, v1] t (0, 0))) : W.cell? ⟨g, 0, none⟩ = some v0 ∧ W.cell? ⟨g, 1, none⟩ = some v1 :=
  ⟨Lib.cell_of_heap h 0, Lib.cell_of_heap h 1⟩

set_option maxRecDepth 100000 in
set_option maxHeartbeats 4000000 in
theorem resolve_gen (F : Prop) (l : List Lfc.Op) (s : List Lfc.Opd) (Al As : Option Addr) (cl cs : Nat) (w : World) (hll : l.length ≤ 1000000) (hsl : s.length ≤ 1000000) (hcs : s.length ≤ cs) (hws : Lfc.wsum s ≤ 100000000) (hl : OpsAt w Al l) (hs : OpdsAt w As s) (hF : ∀ x ∈ s, x.tree.args = [] ∨ F) :
    Calls Tryd.prog 16 #[.slice Al l.length cl, .slice As s.length cs] w fun e w' => (∃ v, e = .returned (.tuple #[v, .int .i64 (Lfc.resolved l s).2]) ∧ TreeVP (fun b => (b < w.heap.size ∧ F) ∨ w.heap.size ≤ b) w' (Lfc.resolved l s).1 v) ∧ Below w.heap.size w w' := by
  by_cases hbad : l.any (fun o => decide (o.bad ≠ 0)) = true
  · exact resolve_bad _ l s Al As cl cs w hll hl hbad
  have hbadf : l.any (fun o => decide (o.bad ≠ 0)) = false := by simpa using hbad
  have he := enters_res1
  have he2 := enters_res2
  obtain ⟨wa, hwa⟩ : ∃ wa, w.alloc (.cells #[.int .i64 0, S [], .int .i64 0, .slice none 0 0] 39) = wa := ⟨_, rfl⟩
  have ba : Below w.heap.size w wa := by rw [← hwa]; exact (Below.refl _ _).alloc (Nat.le_refl _) _
  have qr : wa.heap[w.heap.size]? = some (.cells #[.int .i64 0, S [], .int .i64 0, .slice none 0 0] 39 (0, 0)) := by rw [← hwa]; exact heap_alloc_new _ _
  have C1 := Lib.hid (contains_res1 l Al cl wa (by omega) (hl.below ba))
  rw [hbadf] at C1
  obtain ⟨a1, HA1⟩ : ∃ a1, Hid (s.any (fun x => !x.arrow && decide (x.tree.wf = 1)) = a1) := ⟨_, Lib.hid rfl⟩
  obtain ⟨a2, HA2⟩ : ∃ a2, Hid (s.any (fun x => !x.arrow && decide (x.tree.wf = 2)) = a2) := ⟨_, Lib.hid rfl⟩
  have HR : Hid (Lfc.resolved l s = if a1 = true then (Lfc.rawZ, 1) else if a2 = true then (Lfc.rawZ, 2) else Lfc.resTail l s) := Lib.hid (by
    rw [Lfc.resolved_tail, if_neg hbad, HA1.out, HA2.out])
  have BA := Lib.hid ba
  have QR := Lib.hid qr
  have HL := Lib.hid hl
  have HS := Lib.hid hs
  have HSM : Hid (∀ x ∈ s, x.tree.size ≤ 100000000) := Lib.hid (fun x hx => by have := Lfc.wsum_mem s x hx; omega)
  have HSF : Hid (Small F s) := Lib.hid (fun x hx => ⟨by have := Lfc.wsum_mem s x hx; omega, hF x hx⟩)
  have hsa := eq2 (show wa.heap.size = w.heap.size + 1 by rw [← hwa]; simp)
  clear hl hs ba qr hbad hbadf hF
  go_enter Tryd.func16, Tryd.ntmps16
  go_upto_region 1 with fail
  clear hwa
  go_wp2_with fail
  refine C1.out.mono ?_
  rintro e w1 ⟨rfl, b1⟩
  have hs1 := b1.size
  obtain ⟨w2, hw2⟩ : ∃ w2, w1.alloc (.cells #[.int .i64 1, .int .i64 2] 45) = w2 := ⟨_, rfl⟩
  have b2 : Below w1.heap.size w1 w2 := by rw [← hw2]; exact (Below.refl _ _).alloc (Nat.le_refl _) _
  have q2 : w2.heap[w1.heap.size]? = some (.cells #[.int .i64 1, .int .i64 2] 45 (0, 0)) := by rw [← hw2]; exact heap_alloc_new _ _
  have bw2 : Below w.heap.size w w2 := BA.out.trans ((b1.trans (b2.mono hs1)).mono BA.out.size)
  have B2 := Lib.hid bw2
  have Q2 := Lib.hid q2
  have QR2 := Lib.hid (((b1.trans (b2.mono hs1)).block _ (lt_of_block QR.out)).trans QR.out)
  have HS2 := Lib.hid (HS.out.below bw2)
  have HV : Hid (w.heap.size < w2.heap.size) := Lib.hid (by have := b2.size; omega)
  have hw2s := b2.size
  clear b1 b2 q2 bw2 C1
  go_upto_region 4 with fail
  clear hw2
  go_wp2_with fail
  go_loopw [20] (fun i wr => ∃ j : Nat, j ≤ 2 ∧ i = .int .i64 j ∧ Below w2.heap.size w2 wr ∧ (1 ≤ j → a1 = false) ∧ (2 ≤ j → a2 = false)) (fun i _ => 2 - (intOf i).toNat)
  case atStart => exact ⟨0, by omega, rfl, Below.refl _ _, fun h => by omega, fun h => by omega⟩
  case round =>
    obtain ⟨j, hj, rfl, hbw, h1, h2⟩ := hrel
    rcases (show j = 0 ∨ j = 1 ∨ j = 2 by omega) with rfl | rfl | rfl
    · clear h1 h2
      have hce : wr.cell? ⟨w1.heap.size, 0, none⟩ = some (.int .i64 1) := (cells2 ((hbw.block _ (lt_of_block Q2.out)).trans Q2.out)).1
      obtain ⟨w3, hw3⟩ : ∃ w3, wr.alloc (.cells #[.int .i64 1] 45) = w3 := ⟨_, rfl⟩
      have b3 : Below wr.heap.size wr w3 := by rw [← hw3]; exact (Below.refl _ _).alloc (Nat.le_refl _) _
      have q3 : w3.heap[wr.heap.size]? = some (.cells #[.int .i64 1] 45 (0, 0)) := by rw [← hw3]; exact heap_alloc_new _ _
      have b23 : Below w2.heap.size w2 w3 := hbw.trans (b3.mono hbw.size)
      have CC := Lib.hid (contains_res2 s As cs w3 wr.heap.size 1 (by omega) (HS2.out.below b23) (cell_of_one q3) (lt_of_block q3) HSM.out)
      rw [HA1.out] at CC
      have HW3 := Lib.hid hw3
      have B23 := Lib.hid b23
      have h3lt := lt_of_block q3
      have Q3 := Lib.hid q3
      clear hw3 b3 q3 b23
      cases a1
      · go_upto_region 6 with fail
        rw [HW3.out]
        go_wp2_with fail
        refine CC.out.mono ?_
        rintro e w4 ⟨rfl, b4⟩
        have b24 := B23.out.trans (b4.mono B23.out.size)
        clear b4
        go_wp2_with fail
        go_roundw
        case rel => exact ⟨1, by omega, by rfl, b24, by first | exact fun _ => rfl | simp, by first | exact fun h => by omega | simp⟩
        case measure => simp [intOf]
      · have HRES : Hid (Lfc.resolved l s = (Lfc.rawZ, 1)) := Lib.hid (by
          have e := HR.out
          rw [if_pos rfl] at e
          exact e)
        go_upto_region 6 with fail
        rw [HW3.out]
        go_wp2_with fail
        refine CC.out.mono ?_
        rintro e w4 ⟨rfl, b4⟩
        have b24 := B23.out.trans (b4.mono B23.out.size)
        have q4 := (b4.block _ h3lt).trans Q3.out
        have x4 := cell_of_one q4
        have bw := B2.out.trans (b24.mono B2.out.size)
        have qr4 := (b24.block _ (lt_of_block QR2.out)).trans QR2.out
        obtain ⟨s1, s2, s3, s4, g1, g2, g3, g4, ⟨y0, y1, y2, y3⟩, ⟨f0, f1, f2, f3⟩, hq, ho⟩ := put4 (W := w4.drew) qr4 (.int .i64 0) (S []) (.int .i64 0) (.slice none 0 0)
        have HO4 := Lib.hid ho
        have HB := Lib.hid (Oth.below bw.drew ho (Nat.le_refl _) bw.size)
        have HQ := Lib.hid hq
        clear hq ho
        have xs4 : s4.cell? ⟨wr.heap.size, 0, none⟩ = some (.int .i64 1) := by
          have hlt4 := lt_of_block q4
          have hne : wr.heap.size ≠ w.heap.size := by have := HV.out; have := hbw.size; omega
          exact cell_of_one ((HO4.out.heap (w := w4.drew) q4 hne))
        clear b4 b24 q4 bw qr4
        go_wp2_with fail
        go_region_held3 (fun W => W.cell? ⟨wr.heap.size, 0, none⟩ = some (.int .i64 1))
          (first | exact x4 | exact xs4)
          (fail)
        all_goals
          go_wp2_with fail
          refine bodyPost_ret (results_raw2 rfl _ _ _ _ _ _ _ rfl HQ.out) rfl ?_
          rw [HRES.out]
          exact ⟨⟨_, rfl, (treeV_nil _ _ _ _ (by simp)).leafP⟩, HB.out⟩
    · clear h2
      have h1' := h1 (by omega)
      have hce : wr.cell? ⟨w1.heap.size, 1, none⟩ = some (.int .i64 2) := (cells2 ((hbw.block _ (lt_of_block Q2.out)).trans Q2.out)).2
      obtain ⟨w3, hw3⟩ : ∃ w3, wr.alloc (.cells #[.int .i64 2] 45) = w3 := ⟨_, rfl⟩
      have b3 : Below wr.heap.size wr w3 := by rw [← hw3]; exact (Below.refl _ _).alloc (Nat.le_refl _) _
      have q3 : w3.heap[wr.heap.size]? = some (.cells #[.int .i64 2] 45 (0, 0)) := by rw [← hw3]; exact heap_alloc_new _ _
      have b23 : Below w2.heap.size w2 w3 := hbw.trans (b3.mono hbw.size)
      have CC := Lib.hid (contains_res2 s As cs w3 wr.heap.size 2 (by omega) (HS2.out.below b23) (cell_of_one q3) (lt_of_block q3) HSM.out)
      rw [HA2.out] at CC
      have HW3 := Lib.hid hw3
      have B23 := Lib.hid b23
      have h3lt := lt_of_block q3
      have Q3 := Lib.hid q3
      clear hw3 b3 q3 b23
      cases a2
      · go_upto_region 6 with fail
        rw [HW3.out]
        go_wp2_with fail
        refine CC.out.mono ?_
        rintro e w4 ⟨rfl, b4⟩
        have b24 := B23.out.trans (b4.mono B23.out.size)
        clear b4
        go_wp2_with fail
        go_roundw
        case rel => exact ⟨2, by omega, by rfl, b24, fun _ => h1', by first | exact fun _ => rfl | simp⟩
        case measure => simp [intOf]
      · have HRES : Hid (Lfc.resolved l s = (Lfc.rawZ, 2)) := Lib.hid (by
          have e := HR.out
          rw [h1 (by omega), if_neg (by simp), if_pos rfl] at e
          exact e)
        go_upto_region 6 with fail
        rw [HW3.out]
        go_wp2_with fail
        refine CC.out.mono ?_
        rintro e w4 ⟨rfl, b4⟩
        have b24 := B23.out.trans (b4.mono B23.out.size)
        have q4 := (b4.block _ h3lt).trans Q3.out
        have x4 := cell_of_one q4
        have bw := B2.out.trans (b24.mono B2.out.size)
        have qr4 := (b24.block _ (lt_of_block QR2.out)).trans QR2.out
        obtain ⟨s1, s2, s3, s4, g1, g2, g3, g4, ⟨y0, y1, y2, y3⟩, ⟨f0, f1, f2, f3⟩, hq, ho⟩ := put4 (W := w4.drew) qr4 (.int .i64 0) (S []) (.int .i64 0) (.slice none 0 0)
        have HO4 := Lib.hid ho
        have HB := Lib.hid (Oth.below bw.drew ho (Nat.le_refl _) bw.size)
        have HQ := Lib.hid hq
        clear hq ho
        have xs4 : s4.cell? ⟨wr.heap.size, 0, none⟩ = some (.int .i64 2) := by
          have hlt4 := lt_of_block q4
          have hne : wr.heap.size ≠ w.heap.size := by have := HV.out; have := hbw.size; omega
          exact cell_of_one ((HO4.out.heap (w := w4.drew) q4 hne))
        clear b4 b24 q4 bw qr4
        go_wp2_with fail
        go_region_held3 (fun W => W.cell? ⟨wr.heap.size, 0, none⟩ = some (.int .i64 2))
          (first | exact x4 | exact xs4)
          (fail)
        all_goals
          go_wp2_with fail
          refine bodyPost_ret (results_raw2 rfl _ _ _ _ _ _ _ rfl HQ.out) rfl ?_
          rw [HRES.out]
          exact ⟨⟨_, rfl, (treeV_nil _ _ _ _ (by simp)).leafP⟩, HB.out⟩
    · have HT : Hid (Lfc.resolved l s = Lfc.resTail l s) := Lib.hid (by
        have e := HR.out
        rw [h1 (by omega), h2 (by omega), if_neg (by simp), if_neg (by simp)] at e
        exact e)
      have BW := Lib.hid (B2.out.trans (hbw.mono B2.out.size))
      have QRr := Lib.hid ((hbw.block _ (lt_of_block QR2.out)).trans QR2.out)
      clear h1 h2 HR HA1 HA2 HS2 Q2 QR2 hbw hj
      by_cases hone : s.length = 1
      · have hpos0 : 0 < s.length := by omega
        have hone2 : ((s.length : Int) == 1) = true := by simp [hone]
        have H1 := Lib.hid hone
        have hsl2 : s.length ≤ 1 := by omega
        clear hone
        obtain ⟨bs, os, kk, nn, pp, tt, BB, cc, hAs, hbs, hnd, e0, e1, e2, e3, e4, hTT⟩ := HS.out.at_ (i := 0) (by omega)
        simp only [Nat.zero_mul, Nat.add_zero] at e0 e1 e2 e3 e4
        subst hAs
        have cc0 : ∀ W, Below w.heap.size w W → W.cell? ⟨bs, os, none⟩ = some (.int .i64 kk) ∧ W.cell? ⟨bs, os + 1, none⟩ = some (S nn) ∧ W.cell? ⟨bs, os + 2, none⟩ = some (.int .i64 pp) ∧ W.cell? ⟨bs, os + 3, none⟩ = some (.slice BB tt.length cc) ∧ W.cell? ⟨bs, os + 4, none⟩ = some (.bool s[0].closed) := fun W hb => ⟨(hb.cell (p := ⟨bs, _, none⟩) hbs).trans e0, (hb.cell (p := ⟨bs, _, none⟩) hbs).trans e1, (hb.cell (p := ⟨bs, _, none⟩) hbs).trans e2, (hb.cell (p := ⟨bs, _, none⟩) hbs).trans e3, (hb.cell (p := ⟨bs, _, none⟩) hbs).trans e4⟩
        have hszt := HSM.out s[0] (List.getElem_mem _)
        have hargs : s[0].tree.args.length ≤ 1000000000 := by
          have h1 : s[0].tree.args = tt := by rw [hnd]; rfl
          have h2 := Lfc.Raw.sizes_len tt
          rw [hnd] at hszt
          simp only [Lfc.Raw.size] at hszt
          rw [h1]; omega
        have CA := Lib.hid (arrow_any s[0] _ wr hargs ⟨kk, nn, pp, tt, BB, cc, hnd, rfl, hTT.below BW.out⟩)
        have CC := Lib.hid (fun W (hb : Below w.heap.size w W) => clone_any 100000000 (Nat.le_refl _) s[0].tree (.agg #[.int .i64 kk, S nn, .int .i64 pp, .slice BB tt.length cc]) W (fun b => b < w.heap.size ∧ F) hszt (by
          rw [hnd]
          obtain ⟨v0, v1, v2, v3, ev, hp⟩ := TreeV.toF (F := F) (by have := (HSF.out s[0] (List.getElem_mem _)).2; rw [hnd] at this; exact this) hTT
          exact ⟨v0, v1, v2, v3, ev, TreeP.keep (fun b hq _ => hb.block b hq.1) hb.size (fun _ _ h => h) _ _ _ _ _ hp⟩))
        have HG : Hid (s.getD 0 Lfc.opdZ = s[0]) := Lib.hid (by simp [show 0 < s.length by omega])
        have FC := Lib.hid cc0
        obtain ⟨x0, x1, x2, x3, x4⟩ := cc0 wr BW.out
        have hpi : (0 : Int) < (s.length : Int) := by omega
        generalize hcl : s[0].closed = cl' at *
        generalize har : s[0].arrow = ar at *
        clear e0 e1 e2 e3 e4 hTT hnd cc0 hcl hargs
        cases ar
        · have HRES : Hid (Lfc.resolved l s = (s[0].tree, 0)) := Lib.hid (by rw [HT.out]; unfold Lfc.resTail; rw [if_pos H1.out, HG.out, har]; rfl)
          clear har
          go_wp2_with fail
          refine CA.out.mono ?_
          rintro e w4 ⟨rfl, b4⟩
          have bw4 := BW.out.trans (b4.mono BW.out.size)
          have CC4 := Lib.hid (CC.out w4 bw4)
          have BW4 := Lib.hid bw4
          have qr4 := Lib.hid ((b4.block _ (lt_of_block QRr.out)).trans QRr.out)
          clear x0 x1 x2 x3 x4
          obtain ⟨x0, x1, x2, x3, x4⟩ := FC.out w4 bw4
          clear b4 bw4
          go_wp2_with fail
          refine CC4.out.mono ?_
          rintro e w5 ⟨⟨v5, rfl, hv5⟩, b5⟩
          obtain ⟨k5, n5, p5, us5, A5, c5, e5, rfl, tp5⟩ := hv5.parts4
          have bw5 := BW4.out.trans (b5.mono BW4.out.size)
          have qr5 := (b5.block _ (lt_of_block qr4.out)).trans qr4.out
          have hz4 : w.heap.size < w4.heap.size := lt_of_block qr4.out
          obtain ⟨s1, s2, s3, s4, g1, g2, g3, g4, ⟨y0, y1, y2, y3⟩, ⟨f0, f1, f2, f3⟩, hq, ho⟩ := put4 qr5 (.int .i64 k5) (S n5) (.int .i64 p5) (.slice A5 us5.length c5)
          have HO4 := Lib.hid ho
          have HB := Lib.hid (Oth.below bw5 ho (Nat.le_refl _) bw5.size)
          have HQ := Lib.hid hq
          clear hq ho
          have TP5 := Lib.hid tp5
          clear tp5 hv5 b5 bw5 qr5 e5
          go_wp2_with fail
          refine bodyPost_ret (results_raw2 rfl _ _ _ _ _ _ _ rfl HQ.out) rfl ?_
          rw [HRES.out]
          refine ⟨⟨_, rfl, ⟨_, _, _, _, rfl, ?_⟩⟩, HB.out⟩
          exact TreeP.keep (fun b hb hlt => HO4.out.block b hlt (fun e => by have := Option.some.inj e; rcases hb with hb | hb <;> omega)) HO4.out.size (fun b _ hb => by rcases hb with hb | hb; exact .inl hb; exact .inr (by omega)) _ _ _ _ _ TP5.out
        · have HRES : Hid (Lfc.resolved l s = (Lfc.rawZ, 21)) := Lib.hid (by rw [HT.out]; unfold Lfc.resTail; rw [if_pos H1.out, HG.out, har]; rfl)
          clear har
          go_wp2_with fail
          refine CA.out.mono ?_
          rintro e w4 ⟨rfl, b4⟩
          have bw4 := BW.out.trans (b4.mono BW.out.size)
          have qr4 := (b4.block _ (lt_of_block QRr.out)).trans QRr.out
          obtain ⟨s1, s2, s3, s4, g1, g2, g3, g4, ⟨y0, y1, y2, y3⟩, ⟨f0, f1, f2, f3⟩, hq, ho⟩ := put4 qr4 (.int .i64 0) (S []) (.int .i64 0) (.slice none 0 0)
          have HO4 := Lib.hid ho
          have HB := Lib.hid (Oth.below bw4 ho (Nat.le_refl _) bw4.size)
          have HQ := Lib.hid hq
          clear hq ho
          clear bw4 qr4 b4 x0 x1 x2 x3 x4
          go_wp2_with fail
          refine bodyPost_ret (results_raw2 rfl _ _ _ _ _ _ _ rfl HQ.out) rfl ?_
          rw [HRES.out]
          exact ⟨⟨_, rfl, (treeV_nil _ _ _ _ (by simp)).leafP⟩, HB.out⟩
      · have hone2 : ((s.length : Int) == 1) = false := by simpa using (by omega : ¬ (s.length : Int) = 1)
        have HT2 : Hid (Lfc.resolved l s = match Lfc.resP l s.length s with | .error e => (Lfc.rawZ, e) | .ok t => if t.wf = 0 then (t, 0) else (Lfc.rawZ, 2)) := Lib.hid (by rw [HT.out]; unfold Lfc.resTail; rw [if_neg hone])
        have hRlt : w.heap.size < wr.heap.size := lt_of_block QRr.out
        obtain ⟨m2, hp1, M1, o1⟩ := (OpMap.made wr).put (by omega) Lfc.arrR (by simp [Lfc.arrR]) ⟨[], 5, -1⟩
        obtain ⟨m3, hp2, M2, o2⟩ := M1.put (by omega) Lfc.arrL (by simp [Lfc.arrL]) ⟨[], 4, -1⟩
        have hp1' : (Instr.mapUpdate 66 (.map (some wr.heap.size)) (.string ⟨#[45, 62]⟩) (.agg #[.string ⟨#[]⟩, .int .i64 5, .int .i64 (-1)])).run Tryd.prog (wr.alloc (.map #[] 0)) = .ok () m2 := hp1
        have hp2' : (Instr.mapUpdate 66 (.map (some wr.heap.size)) (.string ⟨#[60, 45]⟩) (.agg #[.string ⟨#[]⟩, .int .i64 4, .int .i64 (-1)])).run Tryd.prog m2 = .ok () m3 := hp2
        have hmk : ∀ W : World, (Instr.makeMap 66 none).run Tryd.prog W = .ok (.map (some W.heap.size)) (W.alloc (.map #[] 0)) := fun W => rfl
        have h12 := o1.size
        have h23 := o2.size
        have hm1s : (wr.alloc (.map #[] 0)).heap.size = wr.heap.size + 1 := by simp
        have k3 : ∀ b, b < wr.heap.size → m3.heap[b]? = wr.heap[b]? := fun b hb => by
          rw [o2.block b (by omega) (fun e => by have := Option.some.inj e; omega), o1.block b (by omega) (fun e => by have := Option.some.inj e; omega)]
          exact Lib.alloc_old wr _ b hb
        have b3 : Below w.heap.size w m3 := ⟨(o2.os.trans o1.os).trans BW.out.os, (o2.tape.trans o1.tape).trans BW.out.tape, (o2.output.trans o1.output).trans BW.out.output, by have := BW.out.size; omega, fun b hb => (k3 b (by omega)).trans (BW.out.block b hb)⟩
        obtain ⟨m4, hm4⟩ : ∃ m4, m3.alloc (.cells #[.map (some wr.heap.size), .int .i64 0] 68) = m4 := ⟨_, rfl⟩
        have b4 : Below m3.heap.size m3 m4 := by rw [← hm4]; exact (Below.refl _ _).alloc (Nat.le_refl _) _
        have q4 : m4.heap[m3.heap.size]? = some (.cells #[.map (some wr.heap.size), .int .i64 0] 68 (0, 0)) := by rw [← hm4]; exact heap_alloc_new _ _
        have I0 : Hid (TopI w w.heap.size m3.heap.size wr.heap.size (Lfc.look (l.take 0)) 2 m4) := by
          refine Lib.hid ⟨b3.trans (b4.mono b3.size), (b4.block _ (by omega)).trans ((k3 _ hRlt).trans QRr.out), q4, ?_⟩
          refine ((M2.kept (Oth.of_below (T := m3.heap.size) b4) (fun e => by have := Option.some.inj e; omega)).congr fun n => ?_)
          unfold Lfc.look
          by_cases h1 : n = Lfc.arrR
          · have h2 : ¬ n = Lfc.arrL := by rw [h1]; decide
            simp [h1, h2]
            intro h3; exact absurd h3 (by decide)
          · by_cases h2 : n = Lfc.arrL
            · simp [h1, h2]
              intro h3; exact absurd h3 (by decide)
            · simp [h1, h2]
        have HM4 := Lib.hid hm4
        have hMR : wr.heap.size < m3.heap.size := by omega
        have hws2 : w.heap.size ≤ m3.heap.size := by omega
        clear hp1 hp2 M1 M2 o1 o2 h12 h23 hm1s k3 b3 b4 q4 hm4 hone
        go_upto_region 14 with fail
        rw [HM4.out]
        clear hp1' hp2' hmk
        generalize m3.heap.size = Rb at *
        generalize hMb : wr.heap.size = Mb at *
        clear hMb HM4
        go_wp2_with fail
        go_loopw [50] (fun i wr => ∃ j N : Nat, j ≤ l.length ∧ i = .int .i64 j ∧ N ≤ j + 2 ∧ Hid (TopI w w.heap.size Rb Mb (Lfc.look (l.take j)) N wr)) (fun i _ => l.length - (intOf i).toNat)
        case atStart => exact ⟨0, 2, Nat.zero_le _, rfl, by omega, I0⟩
        case round =>
          clear I0 BW QRr
          obtain ⟨j, N, hj, rfl, hN, HI⟩ := hrel
          by_cases hlt : j < l.length
          · have HLS := Lib.hid (look_succ l j hlt)
            obtain ⟨bl, ol, hAl, hbl, hcs'⟩ := HL.out.2 (by intro e; rw [e] at hlt; simp at hlt)
            subst hAl
            obtain ⟨d0, d1, d2⟩ := hcs' j hlt
            have hnl := HL.out.1 l[j] (List.getElem_mem _)
            have e0 := (HI.out.bel.cell (p := ⟨bl, _, none⟩) hbl).trans d0
            have e1 := (HI.out.bel.cell (p := ⟨bl, _, none⟩) hbl).trans d1
            have e2 := (HI.out.bel.cell (p := ⟨bl, _, none⟩) hbl).trans d2
            have hi0 : (0 : Int) ≤ (j : Int) := Int.natCast_nonneg _
            have hi1 : (j : Int) < (l.length : Int) := by omega
            generalize hlj : l[j] = o at *
            obtain ⟨on, of, op⟩ := o
            simp only at d0 d1 d2 e0 e1 e2 hnl
            clear d0 d1 d2 hcs' hlj
            obtain ⟨w5, hw5⟩ : ∃ w5, wr.alloc (.cells #[S on, .int .i64 of, .int .i64 op] 36) = w5 := ⟨_, rfl⟩
            have b5 : Below wr.heap.size wr w5 := by rw [← hw5]; exact (Below.refl _ _).alloc (Nat.le_refl _) _
            have q5 : w5.heap[wr.heap.size]? = some (.cells #[S on, .int .i64 of, .int .i64 op] 36 (0, 0)) := by rw [← hw5]; exact heap_alloc_new _ _
            have I5 := Lib.hid (HI.out.new b5)
            have hlk := I5.out.map.look on hnl
            obtain ⟨x0, x1, x2⟩ := cells3 q5
            have r0 : w5.cell? ⟨Rb, 0, none⟩ = some (.map (some Mb)) := Lib.cell_of_heap I5.out.rs 0
            have Q5 := Lib.hid q5
            have HW5 := Lib.hid hw5
            have h5lt := lt_of_block q5
            clear hw5 b5 q5
            cases hlo : Lfc.look (l.take j) on with
            | some o' =>
              rw [hlo] at hlk
              obtain ⟨pn, pf, pp⟩ := o'
              simp only [Option.getD_some, Option.isSome_some] at hlk
              unfold opV at hlk
              simp only at hlk
              have HNX : Hid (TopI w w.heap.size Rb Mb (Lfc.look (l.take (j + 1))) N (w5.alloc (.cells #[S pn, .int .i64 pf, .int .i64 pp] 36))) := Lib.hid (by
                have h := I5.out.new ((Below.refl _ _).alloc (Nat.le_refl _) (.cells #[S pn, .int .i64 pf, .int .i64 pp] 36))
                refine ⟨h.bel, h.res, h.rs, h.map.congr fun n => ?_⟩
                rw [HLS.out n]
                simp [hlo])
              clear hlo
              go_upto_region 17 with fail
              rw [HW5.out]
              go_wp2_with fail
              go_roundw
              case rel => exact ⟨j + 1, N, by omega, by go_num, by omega, HNX⟩
              case measure => simp [intOf]; omega
            | none =>
              rw [hlo] at hlk
              simp only [Option.getD_none, Option.isSome_none] at hlk
              unfold opV opZ at hlk
              simp only at hlk
              obtain ⟨w6, hw6⟩ : ∃ w6, w5.alloc (.cells #[S [], .int .i64 0, .int .i64 0] 36) = w6 := ⟨_, rfl⟩
              have b6 : Below w5.heap.size w5 w6 := by rw [← hw6]; exact (Below.refl _ _).alloc (Nat.le_refl _) _
              have I6 := Lib.hid (I5.out.new b6)
              obtain ⟨w7, hp7, M7, o7⟩ := I6.out.map.put (by omega) on hnl ⟨on, of, op⟩
              unfold opV at hp7
              simp only at hp7
              obtain ⟨z0, z1, z2⟩ := cells3 ((b6.block _ h5lt).trans Q5.out)
              have r6 : w6.cell? ⟨Rb, 0, none⟩ = some (.map (some Mb)) := Lib.cell_of_heap I6.out.rs 0
              have HNX : Hid (TopI w w.heap.size Rb Mb (Lfc.look (l.take (j + 1))) (N + 1) w7) := Lib.hid (by
                refine ⟨Oth.below I6.out.bel o7 (by omega) I6.out.bel.size, o7.heap I6.out.res (by omega), o7.heap I6.out.rs (by omega), M7.congr fun n => ?_⟩
                rw [HLS.out n]
                simp [hlo])
              have HW6 := Lib.hid hw6
              clear hlo hw6 b6 M7 o7
              go_upto_region 17 with fail
              rw [HW5.out]
              go_upto_region 18 with fail
              rw [HW6.out]
              go_wp2_with fail
              go_roundw
              case rel => exact ⟨j + 1, N + 1, by omega, by go_num, by omega, HNX⟩
              case measure => simp [intOf]; omega
          · have hjl : j = l.length := by omega
            have HEV : Hid (EnvR w Rb Mb l wr) := Lib.hid ⟨by omega, by omega, HI.out.bel, ⟨0, HI.out.rs⟩, ⟨N, HI.out.map.congr fun n => by rw [hjl, List.take_length]⟩⟩
            have CR := Lib.hid (res_upto F w Rb Mb l s.length s As cs wr (Nat.le_refl _) hsl hcs HSF.out HS.out HEV.out)
            have hRl := lt_of_block HI.out.res
            clear hjl
            cases hres : Lfc.resP l s.length s with
            | error kk =>
              rw [hres] at CR
              have HRES : Hid (Lfc.resolved l s = (Lfc.rawZ, kk)) := Lib.hid (by rw [HT2.out, hres])
              unfold ResPost ResErr at CR
              simp only at CR
              clear hres
              go_wp2_with fail
              refine CR.out.mono ?_
              rintro ee w8 ⟨rfl, o8, hc8⟩
              obtain ⟨w9, hw9⟩ : ∃ w9, w8.alloc (.cells #[.int .i64 0, S [], .int .i64 0, .slice none 0 0] 39) = w9 := ⟨_, rfl⟩
              have b9 : Below w8.heap.size w8 w9 := by rw [← hw9]; exact (Below.refl _ _).alloc (Nat.le_refl _) _
              have qr8 := o8.heap HI.out.res (by omega)
              have qr9 := (b9.block _ (lt_of_block qr8)).trans qr8
              have hc9 := (b9.block _ (lt_of_block hc8)).trans hc8
              have x1 : w9.cell? ⟨Rb, 1, none⟩ = some (.int .i64 kk) := Lib.cell_of_heap hc9 1
              have bw8 := Oth.below HI.out.bel o8 (by omega) HI.out.bel.size
              have bw9 := bw8.trans (b9.mono bw8.size)
              obtain ⟨s1, s2, s3, s4, g1, g2, g3, g4, ⟨y0, y1, y2, y3⟩, ⟨f0, f1, f2, f3⟩, hq, ho⟩ := put4 (W := w9.drew) qr9 (.int .i64 0) (S []) (.int .i64 0) (.slice none 0 0)
              have HO4 := Lib.hid ho
              have HB := Lib.hid (Oth.below bw9.drew ho (Nat.le_refl _) bw9.size)
              have HQ := Lib.hid hq
              clear hq ho
              have x1s : s4.cell? ⟨Rb, 1, none⟩ = some (.int .i64 kk) := Lib.cell_of_heap (HO4.out.heap (w := w9.drew) hc9 (by omega)) 1
              have HW9 := Lib.hid hw9
              clear hw9 b9 qr8 qr9 hc9 bw8 bw9 hc8 o8
              go_upto_region 22 with fail
              rw [HW9.out]
              go_wp2_with fail
              go_region_held3 (fun W => W.cell? ⟨Rb, 1, none⟩ = some (.int .i64 kk))
                (first | exact x1 | exact x1s)
                (fail)
              all_goals
                go_wp2_with fail
                refine bodyPost_ret (results_raw2 rfl _ _ _ _ _ _ _ rfl HQ.out) rfl ?_
                rw [HRES.out]
                exact ⟨⟨_, rfl, (treeV_nil _ _ _ _ (by simp)).leafP⟩, HB.out⟩
            | ok t =>
              rw [hres] at CR
              have HSZ : Hid (t.size ≤ 100000000) := Lib.hid (Nat.le_trans (Lfc.resP_size l _ s t hres) hws)
              have HR2 : Hid (Lfc.resolved l s = if t.wf = 0 then (t, 0) else (Lfc.rawZ, 2)) := Lib.hid (by rw [HT2.out, hres])
              unfold ResPost ResOk at CR
              simp only at CR
              clear hres
              go_wp2_with fail
              refine CR.out.mono ?_
              rintro ee w8 ⟨v8, rfl, ht8, o8, bad8, hc8⟩
              obtain ⟨k5, n5, p5, us5, A5, c5, e5, rfl, tp5⟩ := ht8.parts4
              obtain ⟨w9, hw9⟩ : ∃ w9, w8.alloc (.cells #[.int .i64 k5, S n5, .int .i64 p5, .slice A5 us5.length c5] 39) = w9 := ⟨_, rfl⟩
              have b9 : Below w8.heap.size w8 w9 := by rw [← hw9]; exact (Below.refl _ _).alloc (Nat.le_refl _) _
              have q9 : w9.heap[w8.heap.size]? = some (.cells #[.int .i64 k5, S n5, .int .i64 p5, .slice A5 us5.length c5] 39 (0, 0)) := by rw [← hw9]; exact heap_alloc_new _ _
              have qr8 := o8.heap HI.out.res (by omega)
              have QR9 := Lib.hid ((b9.block _ (lt_of_block qr8)).trans qr8)
              have bw8 := Oth.below HI.out.bel o8 (by omega) HI.out.bel.size
              have BW9 := Lib.hid (bw8.trans (b9.mono bw8.size))
              have TP9 : Hid (TreeP (fun b => (b < w.heap.size ∧ F) ∨ wr.heap.size ≤ b) w9 t (.int .i64 k5) (S n5) (.int .i64 p5) (.slice A5 us5.length c5)) := Lib.hid (TreeP.keep (fun b _ hlt => b9.block b hlt) b9.size (fun _ _ h => h) _ _ _ _ _ tp5)
              have CW := Lib.hid (wf_any t _ w9 (by have := HSZ.out; omega) (TreeVP.toV ⟨_, _, _, _, rfl, TP9.out⟩))
              have Q9 := Lib.hid q9
              obtain ⟨x0, x1, x2, x3⟩ := cells4 q9
              have HW9 := Lib.hid hw9
              have h9lt := lt_of_block q9
              clear hw9 b9 q9 qr8 bw8 hc8 o8 ht8 tp5 e5
              generalize t.wf = f at *
              go_upto_region 22 with fail
              rw [HW9.out]
              by_cases hf : f = 0
              · have HRES : Hid (Lfc.resolved l s = (t, 0)) := Lib.hid (by rw [HR2.out, if_pos hf])
                rw [hf] at CW
                clear hf
                go_wp2_with fail
                refine CW.out.mono ?_
                rintro ee wv ⟨rfl, bv⟩
                have bwv := BW9.out.trans (bv.mono BW9.out.size)
                have qrv := (bv.block _ (lt_of_block QR9.out)).trans QR9.out
                obtain ⟨z0, z1, z2, z3⟩ := cells4 ((bv.block _ h9lt).trans Q9.out)
                have TPv := Lib.hid (TreeP.keep (q' := fun b => (b < w.heap.size ∧ F) ∨ wr.heap.size ≤ b) (fun b _ hlt => bv.block b hlt) bv.size (fun _ _ h => h) _ _ _ _ _ TP9.out)
                obtain ⟨s1, s2, s3, s4, g1, g2, g3, g4, ⟨y0, y1, y2, y3⟩, ⟨f0, f1, f2, f3⟩, hq, ho⟩ := put4 qrv (.int .i64 k5) (S n5) (.int .i64 p5) (.slice A5 us5.length c5)
                have HO4 := Lib.hid ho
                have HB := Lib.hid (Oth.below bwv ho (Nat.le_refl _) bwv.size)
                have HQ := Lib.hid hq
                clear hq ho
                clear bv bwv qrv x0 x1 x2 x3
                go_wp2_with fail
                refine bodyPost_ret (results_raw2 rfl _ _ _ _ _ _ _ rfl HQ.out) rfl ?_
                rw [HRES.out]
                refine ⟨⟨_, rfl, ⟨_, _, _, _, rfl, ?_⟩⟩, HB.out⟩
                exact TreeP.keep (fun b hb hlt => HO4.out.block b hlt (fun e => by have := Option.some.inj e; rcases hb with hb | hb <;> omega)) HO4.out.size (fun b _ hb => by rcases hb with hb | hb; exact .inl hb; exact .inr (by omega)) _ _ _ _ _ TPv.out
              · have HRES : Hid (Lfc.resolved l s = (Lfc.rawZ, 2)) := Lib.hid (by rw [HR2.out, if_neg hf])
                have hf2 : (f != 0) = true := by simpa using hf
                clear hf
                go_wp2_with fail
                refine CW.out.mono ?_
                rintro ee wv ⟨rfl, bv⟩
                have bwv := BW9.out.trans (bv.mono BW9.out.size)
                have qrv := (bv.block _ (lt_of_block QR9.out)).trans QR9.out
                obtain ⟨s1, s2, s3, s4, g1, g2, g3, g4, ⟨y0, y1, y2, y3⟩, ⟨f0, f1, f2, f3⟩, hq, ho⟩ := put4 qrv (.int .i64 0) (S []) (.int .i64 0) (.slice none 0 0)
                have HO4 := Lib.hid ho
                have HB := Lib.hid (Oth.below bwv ho (Nat.le_refl _) bwv.size)
                have HQ := Lib.hid hq
                clear hq ho
                clear bv bwv qrv x0 x1 x2 x3
                go_wp2_with fail
                refine bodyPost_ret (results_raw2 rfl _ _ _ _ _ _ _ rfl HQ.out) rfl ?_
                rw [HRES.out]
                exact ⟨⟨_, rfl, (treeV_nil _ _ _ _ (by simp)).leafP⟩, HB.out⟩
theorem resolve_any (l : List Lfc.Op) (s : List Lfc.Opd) (Al As : Option Addr) (cl cs : Nat) (w : World) (hll : l.length ≤ 1000000) (hsl : s.length ≤ 1000000) (hcs : s.length ≤ cs) (hws : Lfc.wsum s ≤ 100000000) (hl : OpsAt w Al l) (hs : OpdsAt w As s) :
    Calls Tryd.prog 16 #[.slice Al l.length cl, .slice As s.length cs] w fun e w' => (∃ v, e = .returned (.tuple #[v, .int .i64 (Lfc.resolved l s).2]) ∧ TreeV w' (Lfc.resolved l s).1 v) ∧ Below w.heap.size w w' :=
  (resolve_gen True l s Al As cl cs w hll hsl hcs hws hl hs (fun _ _ => .inr trivial)).mono fun _ _ ⟨⟨v, e, h⟩, hb⟩ => ⟨⟨v, e, TreeVP.toV h⟩, hb⟩
/-- Operands without arguments: the result's blocks are new. -/
theorem resolve_leaf (l : List Lfc.Op) (s : List Lfc.Opd) (Al As : Option Addr) (cl cs : Nat) (w : World) (hll : l.length ≤ 1000000) (hsl : s.length ≤ 1000000) (hcs : s.length ≤ cs) (hws : Lfc.wsum s ≤ 100000000) (hl : OpsAt w Al l) (hs : OpdsAt w As s) (hF : ∀ x ∈ s, x.tree.args = []) :
    Calls Tryd.prog 16 #[.slice Al l.length cl, .slice As s.length cs] w fun e w' => (∃ v, e = .returned (.tuple #[v, .int .i64 (Lfc.resolved l s).2]) ∧ TreeVP (fun b => w.heap.size ≤ b) w' (Lfc.resolved l s).1 v) ∧ Below w.heap.size w w' :=
  (resolve_gen False l s Al As cl cs w hll hsl hcs hws hl hs (fun x hx => .inl (hF x hx))).mono fun _ _ ⟨⟨v, e, v0, v1, v2, v3, ev, h⟩, hb⟩ => ⟨⟨v, e, v0, v1, v2, v3, ev, TreeP.keep (fun _ _ _ => rfl) (Nat.le_refl _) (fun b _ hb => by rcases hb with hb | hb; exact hb.2.elim; exact hb) _ _ _ _ _ h⟩, hb⟩
end Go.Proofs.YtkhfnkokdmoipaaDoor

/- slices.Clone at operators; operator.Add. -/
set_option linter.unusedVariables false
set_option linter.unusedSimpArgs false
namespace Go.Proofs.YtkhfnkokdmoipaaDoor
open Go.RowKit Go.Maps Go.WideMaps

def opCells : List Lfc.Op → List Value
  | [] => []
  | x :: r => S x.name :: .int .i64 x.fix :: .int .i64 x.prec :: opCells r
theorem opCells_len : ∀ l : List Lfc.Op, (opCells l).length = l.length * 3
  | [] => rfl
  | x :: r => by simp only [opCells, List.length_cons, opCells_len r]; omega
theorem opCells_app : ∀ a b : List Lfc.Op, opCells (a ++ b) = opCells a ++ opCells b
  | [], b => rfl
  | x :: r, b => by simp only [List.cons_append, opCells, opCells_app r b]
theorem opCells_one : ∀ (l : List Lfc.Op), ∀ u ∈ opCells l, u.oneCell' = true
  | [], u, h => by cases h
  | x :: r, u, h => by
    simp only [opCells, List.mem_cons] at h
    rcases h with rfl | rfl | rfl | h
    · rfl
    · rfl
    · rfl
    · exact opCells_one r u h
theorem opCells_get : ∀ (l : List Lfc.Op) (i : Nat) (h : i < l.length), (opCells l)[i * 3]? = some (S l[i].name) ∧ (opCells l)[i * 3 + 1]? = some (.int .i64 l[i].fix) ∧ (opCells l)[i * 3 + 2]? = some (.int .i64 l[i].prec)
  | [], _, h => by simp at h
  | x :: r, 0, _ => by simp [opCells]
  | x :: r, i + 1, h => by
    have := opCells_get r i (by simpa using h)
    rw [show (i + 1) * 3 = i * 3 + 1 + 1 + 1 by omega]
    simpa [opCells] using this
theorem ops_cells {w : World} {b : Nat} : ∀ (l : List Lfc.Op) (o : Nat), (∀ i (h : i < l.length), OpC w b (o + i * 3) l[i]) → ∀ j u, (opCells l)[j]? = some u → w.cell? ⟨b, o + j, none⟩ = some u
  | [], o, _, j, u, h => by simp [opCells] at h
  | x :: r, o, hc, j, u, h => by
    have h0 := hc 0 (by simp)
    simp only [Nat.zero_mul, Nat.add_zero, List.getElem_cons_zero] at h0
    match j with
    | 0 => simp [opCells] at h; subst h; exact h0.1
    | 1 => simp [opCells] at h; subst h; exact h0.2.1
    | 2 => simp [opCells] at h; subst h; exact h0.2.2
    | j + 3 =>
      have h1 := ops_cells r (o + 3) (fun i hi => by
        have := hc (i + 1) (by simpa using hi)
        rw [show o + 3 + i * 3 = o + (i + 1) * 3 by omega]
        simpa using this) j u (by simpa [opCells] using h)
      rw [show o + (j + 3) = o + 3 + j by omega]
      exact h1
theorem OpsAt.of_own {w : World} {base c : Nat} {A : Option Addr} {l : List Lfc.Op} (hn : ∀ x ∈ l, x.name.length ≤ 1000000) (h : w.ownsRow base 36 3 (.slice A l.length c) l.length (opCells l)) : OpsAt w A l := ⟨hn, fun hne => by
  rcases h.2 with ⟨_, h0⟩ | ⟨g, cap, cur, hv, hbg, hg, _⟩
  · exact absurd (List.length_eq_zero_iff.1 h0) hne
  · have hv' := hv
    injection hv with e1 _ e3
    subst e1 e3
    have hc := own_cells h
    refine ⟨g, 0, rfl, lt_of_block hg, fun i hi => ?_⟩
    obtain ⟨c0, c1, c2⟩ := opCells_get l i hi
    exact ⟨hc _ _ c0, hc _ _ c1, hc _ _ c2⟩⟩
theorem op_info : ∃ i, Tryd.prog.info? 36 = some i ∧ i.zero = some (.agg #[S [], .int .i64 0, .int .i64 0]) ∧ i.size = 3 ∧ i.bytes = 32 := by
  obtain ⟨i0, hi, hz0, hz1, hz2⟩ := info_parts (show (Tryd.prog.info? 36).map (fun i => (i.zero, i.size, i.bytes)) = some (some (.agg #[S [], .int .i64 0, .int .i64 0]), 3, 32) by kernel_rfl)
  exact ⟨i0, hi, hz0, hz1, hz2⟩

set_option maxRecDepth 100000 in
set_option maxHeartbeats 2000000 in
theorem oclone_any (l : List Lfc.Op) (A : Option Addr) (c : Nat) (w : World) (hl : l.length ≤ 1000000000) (h : OpsAt w A l) :
    Calls Tryd.prog 24 #[.slice A l.length c] w fun e w' => ∃ A' c', e = .returned (.slice A' l.length c') ∧ Hid (w'.ownsRow w.heap.size 36 3 (.slice A' l.length c') l.length (opCells l)) ∧ Below w.heap.size w w' := by
  obtain ⟨i0, hi, hz0, hz1, hz2⟩ := op_info
  rcases A with _ | A
  · have hts : l = [] := by
      by_cases e : l = []
      · exact e
      · obtain ⟨b, o, hA, _⟩ := h.2 e; cases hA
    subst hts
    simp only [List.length_nil] at *
    have hnil : ∀ W : World, (binOp .eql 23 (.slice none 0 c) (.slice none 0 0)).run Tryd.prog W = .ok (.bool true) W := fun _ => rfl
    clear h
    go_enter Tryd.func24, Tryd.ntmps24
    go_wp2_with fail
    go_ret
    exact ⟨none, 0, rfl, Lib.hid (own_nil _ _ _ _), Below.refl _ _⟩
  · have hcells : ∀ j u, (opCells l)[j]? = some u → w.cell? (A.add j) = some u := fun j u hj => by
      by_cases e : l = []
      · subst e; simp [opCells] at hj
      · obtain ⟨b, o, hA, hb, hc⟩ := h.2 e
        cases hA
        rw [Go.WideShapes.add_plain]
        exact ops_cells l o hc j u hj
    have hx := opCells_len l
    have hone := opCells_one l
    have hlm : 0 + l.length ≤ maxLen := by unfold maxLen; omega
    have hl32 : (0 + l.length) * 32 ≤ 140737488355328 := by omega
    have hown0 : (w.alloc (.cells #[] 36)).ownsRow w.heap.size 36 3 (.slice (some ⟨w.heap.size, 0, none⟩) 0 0) 0 [] :=
      ⟨rfl, .inr ⟨w.heap.size, 0, #[], rfl, Nat.le_refl _, heap_alloc_new _ _, Nat.le_refl _, by unfold maxLen; omega, rfl, rfl⟩⟩
    have hc2 : ∀ j u, (opCells l)[j]? = some u → (w.alloc (.cells #[] 36)).cell? (A.add j) = some u := fun j u hj => by
      have h1 := hcells j u hj
      have h2 : (A.add j).block < w.heap.size := by
        rcases Nat.lt_or_ge (A.add j).block w.heap.size with h3 | h3
        · exact h3
        · unfold World.cell? at h1; rw [Array.getElem?_eq_none h3] at h1; cases h1
      rw [World.cell?_of_block (Lib.alloc_old w _ _ h2)]; exact h1
    have HOWN := Lib.hid hown0
    have HC2 := Lib.hid hc2
    have b1 : Below w.heap.size w (w.alloc (.cells #[] 36)) := (Below.refl _ _).alloc (Nat.le_refl _) _
    have hnil : ∀ W : World, (binOp .eql 23 (.slice (some A) l.length c) (.slice none 0 0)).run Tryd.prog W = .ok (.bool false) W := fun _ => rfl
    clear h hcells hown0 hc2
    go_enter Tryd.func24, Tryd.ntmps24
    go_wp2_with (at_builtin; refine wpList_append_own_at _ rfl _ _ 23 rfl w.heap.size 36 i0 (.agg #[S [], .int .i64 0, .int .i64 0]) 3 32 Tryd.underlying23 hi hz0 hz1 hz2 rfl (by decide) _ _ _ rfl HOWN.out A l.length c (opCells l) rfl hx HC2.out hone hlm hl32 (by simp) ?_)
    intro v' w2 hown2 hg2 _ _
    obtain ⟨A2, c2, rfl⟩ := own_form hown2
    have HO2 := Lib.hid hown2
    have b2 : Below w.heap.size w w2 := b1.grown hg2 (by simp) (own_block_ge HOWN.out)
    clear hown2 hg2
    go_wp2_with fail
    go_ret
    exact ⟨A2, c2, rfl, by simpa using HO2, b2⟩

def AddPost (w : World) (l : List Lfc.Op) (o : Lfc.Op) (e : Ending) (w' : World) : Prop := (∃ A c, e = .returned (.tuple #[.slice A (Lfc.added l o).1.length c, .int .i64 (Lfc.added l o).2]) ∧ OpsAt w' A (Lfc.added l o).1) ∧ Below w.heap.size w w'
set_option maxRecDepth 100000 in
set_option maxHeartbeats 4000000 in
theorem opAdd_any (l : List Lfc.Op) (o : Lfc.Op) (A : Option Addr) (c : Nat) (w : World) (hl : l.length ≤ 1000000) (hn : o.name.length ≤ 1000000) (h : OpsAt w A l) :
    Calls Tryd.prog 12 #[.slice A l.length c, opV o] w (AddPost w l o) := by
  have he := enters_add1
  obtain ⟨i0, hi, hz0, hz1, hz2⟩ := op_info
  obtain ⟨wa, hwa⟩ : ∃ wa, w.alloc (.cells #[S o.name, .int .i64 o.fix, .int .i64 o.prec] 36) = wa := ⟨_, rfl⟩
  have ba : Below w.heap.size w wa := by rw [← hwa]; exact (Below.refl _ _).alloc (Nat.le_refl _) _
  have qa : wa.heap[w.heap.size]? = some (.cells #[S o.name, .int .i64 o.fix, .int .i64 o.prec] 36 (0, 0)) := by rw [← hwa]; exact heap_alloc_new _ _
  have hlta := lt_of_block qa
  have HN := Lib.hid h.1
  have CK := Lib.hid (check_any o wa hn)
  have CC := Lib.hid (fun W (hb : Below wa.heap.size wa W) => contains_add1 l A c W w.heap.size o.name (by omega) (h.below (ba.trans (hb.mono ba.size))) ((hb.cell (p := ⟨w.heap.size, 0, none⟩) hlta).trans (cells3 qa).1) (Nat.lt_of_lt_of_le hlta hb.size))
  have CL := Lib.hid (fun W (hb : Below wa.heap.size wa W) => oclone_any l A c W (by omega) (h.below (ba.trans (hb.mono ba.size))))
  have FC := Lib.hid (fun W (hb : Below wa.heap.size wa W) => cells3 ((hb.block _ hlta).trans qa))
  have BA := Lib.hid ba
  have aa : ∀ W W', Below wa.heap.size wa W → Below W.heap.size W W' → Below wa.heap.size wa W' := fun W W' h h' => h.trans (h'.mono h.size)
  obtain ⟨q, hq⟩ : ∃ q, l.any (fun x => decide (x.name = o.name)) = q := ⟨_, rfl⟩
  have HQ := Lib.hid hq
  rw [hq] at CC
  obtain ⟨x0, x1, x2⟩ := cells3 qa
  have fin0 : Hid (∀ (k : Int) (A' : Option Addr) (c' : Nat) (W W' : World), Lfc.added l o = (l, k) → Below wa.heap.size wa W → Below W.heap.size W W' → W'.ownsRow W.heap.size 36 3 (.slice A' l.length c') l.length (opCells l) → AddPost w l o (.returned (.tuple #[.slice A' l.length c', .int .i64 k])) W') := Lib.hid (fun k A' c' W W' ha hb hb' ho => by
    unfold AddPost
    rw [ha]
    exact ⟨⟨A', c', rfl, OpsAt.of_own HN.out ho⟩, BA.out.trans (((hb.trans (hb'.mono hb.size))).mono BA.out.size)⟩)
  unfold opV at CK ⊢
  have HWA := Lib.hid hwa
  have HAD0 : Hid (Lfc.added l o = if o.bad ≠ 0 then (l, o.bad) else if q = true then (l, 30) else if 512 ≤ l.length then (l, 7) else (l ++ [o], 0)) := Lib.hid (by unfold Lfc.added; rw [hq])
  generalize hzb : o.bad = z at *
  clear ba qa h hwa hq hzb
  by_cases hz : z = 0
  · subst hz
    cases q
    · by_cases h5 : 512 ≤ l.length
      · have HAD : Hid (Lfc.added l o = (l, 7)) := Lib.hid (by rw [HAD0.out]; simp [h5])
        have h5i : (512 : Int) ≤ (l.length : Int) := by omega
        have h5d : decide (512 ≤ l.length) = true := by simpa using h5
        go_enter Tryd.func12, Tryd.ntmps12
        go_upto_region 1 with fail
        rw [HWA.out]
        go_wp2_with fail
        refine CK.out.mono ?_
        rintro e w1 ⟨rfl, b1⟩
        have hb1 := aa _ _ (Below.refl _ _) b1
        go_wp2_with fail
        refine (CC.out w1 hb1).mono ?_
        rintro e w2 ⟨rfl, b2⟩
        have hb2 := aa _ _ hb1 b2
        go_wp2_with fail
        refine (CL.out w2 hb2).mono ?_
        rintro e w4 ⟨A4, c4, rfl, HO4, b4⟩
        go_wp2_with fail
        go_ret2
        exact fin0.out 7 A4 c4 w2 _ HAD.out hb2 b4 HO4.out
      · have HAD : Hid (Lfc.added l o = (l ++ [o], 0)) := Lib.hid (by rw [HAD0.out]; simp [h5])
        have h5i : (l.length : Int) < 512 := by omega
        have h5d : decide (512 ≤ l.length) = false := by simpa using h5
        have hlm : l.length + 1 ≤ maxLen := by unfold maxLen; omega
        have hl32 : (l.length + 1) * 32 ≤ 140737488355328 := by omega
        have hone : ∀ u ∈ [S o.name, Value.int .i64 o.fix, .int .i64 o.prec], u.oneCell' = true := by intro u hu; simp at hu; rcases hu with rfl | rfl | rfl <;> rfl
        go_enter Tryd.func12, Tryd.ntmps12
        go_upto_region 1 with fail
        rw [HWA.out]
        go_wp2_with fail
        refine CK.out.mono ?_
        rintro e w1 ⟨rfl, b1⟩
        have hb1 := aa _ _ (Below.refl _ _) b1
        go_wp2_with fail
        refine (CC.out w1 hb1).mono ?_
        rintro e w2 ⟨rfl, b2⟩
        have hb2 := aa _ _ hb1 b2
        go_wp2_with fail
        refine (CL.out w2 hb2).mono ?_
        rintro e w4 ⟨A4, c4, rfl, HO4, b4⟩
        have hb4 := aa _ _ hb2 b4
        have hs4 := b4.size
        obtain ⟨u0, u1, u2⟩ := FC.out w4 hb4
        go_wp2_with (at_builtin; refine wpList_append_own_at _ rfl _ _ 23 rfl w2.heap.size 36 i0 (.agg #[S [], .int .i64 0, .int .i64 0]) 3 32 Tryd.underlying23 hi hz0 hz1 hz2 rfl (by decide) _ _ _ rfl (HO4.out.alloc _) ⟨w4.heap.size, 0, none⟩ 1 1 [S o.name, .int .i64 o.fix, .int .i64 o.prec] rfl rfl (fun j u h => cells_new w4 _ rfl [S o.name, .int .i64 o.fix, .int .i64 o.prec] 36 j u h) hone hlm hl32 (alloc_le hs4) ?_)
        intro v8 w8 hown8 hg8 _ _
        obtain ⟨A8, c8, rfl⟩ := own_form hown8
        have HF : Hid (AddPost w l o (.returned (.tuple #[.slice A8 (l.length + 1) c8, .int .i64 0])) w8) := Lib.hid (by
          have e1 : opCells (l ++ [o]) = opCells l ++ [S o.name, .int .i64 o.fix, .int .i64 o.prec] := by rw [opCells_app]; rfl
          have ho : w8.ownsRow w2.heap.size 36 3 (.slice A8 (l ++ [o]).length c8) (l ++ [o]).length (opCells (l ++ [o])) := by rw [e1, List.length_append]; exact hown8
          have bz : Below w2.heap.size w2 w8 := (b4.trans (((Below.refl _ _).alloc (Nat.le_refl _) _).mono hs4)).grown hg8 (by simp; omega) (own_block_ge HO4.out)
          unfold AddPost
          rw [HAD.out]
          refine ⟨⟨A8, c8, by simp, OpsAt.of_own (fun x hx => ?_) ho⟩, BA.out.trans ((hb2.trans (bz.mono hb2.size)).mono BA.out.size)⟩
          rcases List.mem_append.1 hx with hx | hx
          · exact HN.out x hx
          · simp at hx; subst hx; exact hn)
        clear hown8 hg8
        go_wp2_with fail
        go_ret2
        exact HF.out
    · have HAD : Hid (Lfc.added l o = (l, 30)) := Lib.hid (by rw [HAD0.out]; simp)
      go_enter Tryd.func12, Tryd.ntmps12
      go_upto_region 1 with fail
      rw [HWA.out]
      go_wp2_with fail
      refine CK.out.mono ?_
      rintro e w1 ⟨rfl, b1⟩
      have hb1 := aa _ _ (Below.refl _ _) b1
      go_wp2_with fail
      refine (CC.out w1 hb1).mono ?_
      rintro e w2 ⟨rfl, b2⟩
      have hb2 := aa _ _ hb1 b2
      go_wp2_with fail
      refine (CL.out w2 hb2).mono ?_
      rintro e w4 ⟨A4, c4, rfl, HO4, b4⟩
      go_wp2_with fail
      go_ret2
      exact fin0.out 30 A4 c4 w2 _ HAD.out hb2 b4 HO4.out
  · have HAD : Hid (Lfc.added l o = (l, z)) := Lib.hid (by rw [HAD0.out]; simp [hz])
    have hz2 : (z != 0) = true := by simpa using hz
    have hz3 : (z == 0) = false := by simpa using hz
    clear hz
    go_enter Tryd.func12, Tryd.ntmps12
    go_upto_region 1 with fail
    rw [HWA.out]
    go_wp2_with fail
    refine CK.out.mono ?_
    rintro e w1 ⟨rfl, b1⟩
    have hb1 := aa _ _ (Below.refl _ _) b1
    go_wp2_with fail
    refine (CL.out w1 hb1).mono ?_
    rintro e w4 ⟨A4, c4, rfl, HO4, b4⟩
    go_wp2_with fail
    go_ret2
    exact fin0.out z A4 c4 w1 _ HAD.out hb1 b4 HO4.out
end Go.Proofs.YtkhfnkokdmoipaaDoor

/- lfchecklaw03.name and awake. -/
set_option linter.unusedVariables false
set_option linter.unusedSimpArgs false
namespace Lfc
def nameT (n : List UInt8) : Raw := .node 1 n 0 []
def nameO (n : List UInt8) : Opd := ⟨nameT n, false⟩
def plusO : Op := ⟨[43], 4, 10⟩
def awT : Raw := .node 5 [] 0 [.node 5 [] 0 [nameT [43], nameT [97]], nameT [98]]
theorem aw_add1 : added [] plusO = ([plusO], 0) := rfl
theorem aw_add2 : added [plusO] ⟨[43], 1, 0⟩ = ([plusO], 30) := rfl
theorem aw_res1 : resolved [plusO] [nameO [97], nameO [43], nameO [98]] = (awT, 0) := rfl
theorem aw_res2 : resolved [plusO] [nameO [97], nameO [43]] = (rawZ, 21) := rfl
theorem aw_fmt : awT.fmt [] = [40, 40, 43, 32, 97, 41, 32, 98, 41] := by decide
end Lfc
namespace Go.Proofs.YtkhfnkokdmoipaaDoor
open Go.RowKit Go.Maps Go.WideMaps

theorem TreeV.node3 {w : World} {t : Lfc.Raw} {v : Value} (h : TreeV w t v) : ∃ k n p ts A c, t = .node k n p ts ∧ v = .agg #[.int .i64 k, S n, .int .i64 p, .slice A ts.length c] := by
  obtain ⟨k, n, p, ts⟩ := t
  obtain ⟨A, c, rfl, _⟩ := h.open_
  exact ⟨k, n, p, ts, A, c, rfl, rfl⟩
theorem opd_size : (Tryd.prog.info? 42).map (·.size) = some 5 := by kernel_rfl
theorem results_opd {fn : Func} {p : Tmp} (h : fn.results = #[.cell p 42]) (tmps : Array Value) (w : World) (g : Nat) (v0 v1 v2 v3 v4 : Value) (hp : tmps.getD p undef = .pointer (some ⟨g, 0, none⟩)) (hg : w.heap[g]? = some (.cells #[v0, v1, v2, v3, v4] 42 (0, 0))) :
    (results fn tmps).run Tryd.prog w = .ok (.agg #[v0, v1, v2, v3, v4]) w :=
  results_cell_row h tmps w g _ _ _ _ hp hg Tryd.underlying42 rfl opd_size

set_option maxRecDepth 100000 in
set_option maxHeartbeats 2000000 in
theorem name_any3 (n : List UInt8) (w : World) : Calls Tryd.prog 19 #[S n] w fun e w' => e = .returned (.agg #[.int .i64 1, S n, .int .i64 0, .slice none 0 0, .bool false]) ∧ Below w.heap.size w w' := by
  go_enter Tryd.func19, Tryd.ntmps19
  go_wp2_with fail
  refine bodyPost_ret (results_opd rfl _ _ w.heap.size _ _ _ _ _ rfl (heap_alloc_new _ _)) rfl ?_
  exact ⟨rfl, (Below.refl _ _).alloc (Nat.le_refl _) _⟩

/-- The cells of operands that are names. -/
def nameCells5 : List (List UInt8) → List Value
  | [] => []
  | n :: r => .int .i64 1 :: S n :: .int .i64 0 :: .slice none 0 0 :: .bool false :: nameCells5 r
theorem opdC_name {w : World} {b o : Nat} {n : List UInt8} (hn : n.length ≤ 1000000) (h0 : w.cell? ⟨b, o, none⟩ = some (.int .i64 1)) (h1 : w.cell? ⟨b, o + 1, none⟩ = some (S n)) (h2 : w.cell? ⟨b, o + 2, none⟩ = some (.int .i64 0)) (h3 : w.cell? ⟨b, o + 3, none⟩ = some (.slice none 0 0)) (h4 : w.cell? ⟨b, o + 4, none⟩ = some (.bool false)) : OpdC w b o (Lfc.nameO n) :=
  ⟨1, n, 0, [], none, 0, rfl, h0, h1, h2, h3, h4, treeV_nil _ _ _ _ hn⟩
theorem opds_two {w : World} {g : Nat} {n0 n1 : List UInt8} (h0 : n0.length ≤ 1000000) (h1 : n1.length ≤ 1000000) (h : w.heap[g]? = some (.cells #[.int .i64 1, S n0, .int .i64 0, .slice none 0 0, .bool false, .int .i64 1, S n1, .int .i64 0, .slice none 0 0, .bool false] 42 (0, 0))) : OpdsAt w (some ⟨g, 0, none⟩) [Lfc.nameO n0, Lfc.nameO n1] := fun _ =>
  ⟨g, 0, rfl, lt_of_block h, fun i hi => by
    match i, hi with
    | 0, _ => exact opdC_name h0 (Lib.cell_of_heap h 0) (Lib.cell_of_heap h 1) (Lib.cell_of_heap h 2) (Lib.cell_of_heap h 3) (Lib.cell_of_heap h 4)
    | 1, _ => exact opdC_name h1 (Lib.cell_of_heap h 5) (Lib.cell_of_heap h 6) (Lib.cell_of_heap h 7) (Lib.cell_of_heap h 8) (Lib.cell_of_heap h 9)⟩
theorem opds_three {w : World} {g : Nat} {n0 n1 n2 : List UInt8} (h0 : n0.length ≤ 1000000) (h1 : n1.length ≤ 1000000) (h2 : n2.length ≤ 1000000) (h : w.heap[g]? = some (.cells #[.int .i64 1, S n0, .int .i64 0, .slice none 0 0, .bool false, .int .i64 1, S n1, .int .i64 0, .slice none 0 0, .bool false, .int .i64 1, S n2, .int .i64 0, .slice none 0 0, .bool false] 42 (0, 0))) : OpdsAt w (some ⟨g, 0, none⟩) [Lfc.nameO n0, Lfc.nameO n1, Lfc.nameO n2] := fun _ =>
  ⟨g, 0, rfl, lt_of_block h, fun i hi => by
    match i, hi with
    | 0, _ => exact opdC_name h0 (Lib.cell_of_heap h 0) (Lib.cell_of_heap h 1) (Lib.cell_of_heap h 2) (Lib.cell_of_heap h 3) (Lib.cell_of_heap h 4)
    | 1, _ => exact opdC_name h1 (Lib.cell_of_heap h 5) (Lib.cell_of_heap h 6) (Lib.cell_of_heap h 7) (Lib.cell_of_heap h 8) (Lib.cell_of_heap h 9)
    | 2, _ => exact opdC_name h2 (Lib.cell_of_heap h 10) (Lib.cell_of_heap h 11) (Lib.cell_of_heap h 12) (Lib.cell_of_heap h 13) (Lib.cell_of_heap h 14)⟩

set_option maxRecDepth 100000 in
set_option maxHeartbeats 4000000 in
theorem awake3_any (w : World) : Calls Tryd.prog 9 #[] w fun e w' => e = .returned (.bool true) ∧ Below w.heap.size w w' := by
  have C1 := Lib.hid (show Calls Tryd.prog 12 #[.slice none 0 0, .agg #[S [43], .int .i64 4, .int .i64 10]] w (AddPost w [] Lfc.plusO) from opAdd_any [] Lfc.plusO none 0 w (by simp) (by decide) ⟨fun x h => by (cases h), fun h => absurd rfl h⟩)
  go_enter Tryd.func9, Tryd.ntmps9
  go_wp2_with fail
  refine C1.out.mono ?_
  unfold AddPost
  rw [Lfc.aw_add1]
  rintro e w1 ⟨⟨A1, c1, rfl, ho1⟩, b1⟩
  simp only [List.length_cons, List.length_nil, Nat.zero_add] at *
  have HO1 := Lib.hid ho1
  clear ho1 C1
  go_wp2_with fail
  refine (name_any3 [97] w1).mono ?_
  rintro e w2 ⟨rfl, b2⟩
  go_wp2_with fail
  refine (name_any3 [43] w2).mono ?_
  rintro e w3 ⟨rfl, b3⟩
  go_wp2_with fail
  refine (name_any3 [98] w3).mono ?_
  rintro e w4 ⟨rfl, b4⟩
  obtain ⟨w5, hw5⟩ : ∃ w5, w4.alloc (.cells #[.int .i64 1, S [97], .int .i64 0, .slice none 0 0, .bool false, .int .i64 1, S [43], .int .i64 0, .slice none 0 0, .bool false, .int .i64 1, S [98], .int .i64 0, .slice none 0 0, .bool false] 42) = w5 := ⟨_, rfl⟩
  have b5 : Below w4.heap.size w4 w5 := by rw [← hw5]; exact (Below.refl _ _).alloc (Nat.le_refl _) _
  have q5 : w5.heap[w4.heap.size]? = some (.cells #[.int .i64 1, S [97], .int .i64 0, .slice none 0 0, .bool false, .int .i64 1, S [43], .int .i64 0, .slice none 0 0, .bool false, .int .i64 1, S [98], .int .i64 0, .slice none 0 0, .bool false] 42 (0, 0)) := by rw [← hw5]; exact heap_alloc_new _ _
  have up : ∀ {a b c : World}, Below a.heap.size a b → Below b.heap.size b c → Below a.heap.size a c := fun h h' => h.trans (h'.mono h.size)
  have b15 : Below w1.heap.size w1 w5 := up (up (up b2 b3) b4) b5
  have C5 := Lib.hid (show Calls Tryd.prog 16 #[.slice A1 1 c1, .slice (some ⟨w4.heap.size, 0, none⟩) 3 3] w5 _ from resolve_any [Lfc.plusO] [Lfc.nameO [97], Lfc.nameO [43], Lfc.nameO [98]] A1 (some ⟨w4.heap.size, 0, none⟩) c1 3 w5 (by simp) (by simp) (by simp) (by decide) (HO1.out.below b15) (opds_three (by simp) (by simp) (by simp) q5))
  rw [Lfc.aw_res1] at C5
  have B15 := Lib.hid b15
  have B1 := Lib.hid b1
  clear b1 b2 b3 b4 b5 q5 b15
  go_wp2_with fail
  refine C5.out.mono ?_
  rintro e w6 ⟨⟨v6, rfl, hv6⟩, b6⟩
  obtain ⟨k6, n6, p6, us6, A6, c6, e6, rfl⟩ := TreeV.node3 hv6
  obtain ⟨w7, hw7⟩ : ∃ w7, w6.alloc (.cells #[.int .i64 k6, S n6, .int .i64 p6, .slice A6 us6.length c6] 39) = w7 := ⟨_, rfl⟩
  have b7 : Below w6.heap.size w6 w7 := by rw [← hw7]; exact (Below.refl _ _).alloc (Nat.le_refl _) _
  have q7 : w7.heap[w6.heap.size]? = some (.cells #[.int .i64 k6, S n6, .int .i64 p6, .slice A6 us6.length c6] 39 (0, 0)) := by rw [← hw7]; exact heap_alloc_new _ _
  have B17 := Lib.hid (up B15.out (up b6 b7))
  have HV7 := Lib.hid (hv6.below b7)
  have Q7 := Lib.hid q7
  have HW7 := Lib.hid hw7
  have h7lt := lt_of_block q7
  clear hv6 b6 b7 q7 hw7 hw5 e6 C5
  go_upto_region 3 with fail
  rw [HW7.out]
  go_wp2_with fail
  refine (name_any3 [97] w7).mono ?_
  rintro e w8 ⟨rfl, b8⟩
  go_wp2_with fail
  refine (name_any3 [43] w8).mono ?_
  rintro e w9 ⟨rfl, b9⟩
  obtain ⟨wx, hwx⟩ : ∃ wx, w9.alloc (.cells #[.int .i64 1, S [97], .int .i64 0, .slice none 0 0, .bool false, .int .i64 1, S [43], .int .i64 0, .slice none 0 0, .bool false] 42) = wx := ⟨_, rfl⟩
  have bx : Below w9.heap.size w9 wx := by rw [← hwx]; exact (Below.refl _ _).alloc (Nat.le_refl _) _
  have qx : wx.heap[w9.heap.size]? = some (.cells #[.int .i64 1, S [97], .int .i64 0, .slice none 0 0, .bool false, .int .i64 1, S [43], .int .i64 0, .slice none 0 0, .bool false] 42 (0, 0)) := by rw [← hwx]; exact heap_alloc_new _ _
  have b7x := up (up b8 b9) bx
  have C6 := Lib.hid (show Calls Tryd.prog 16 #[.slice A1 1 c1, .slice (some ⟨w9.heap.size, 0, none⟩) 2 2] wx _ from resolve_any [Lfc.plusO] [Lfc.nameO [97], Lfc.nameO [43]] A1 (some ⟨w9.heap.size, 0, none⟩) c1 2 wx (by simp) (by simp) (by simp) (by decide) (HO1.out.below (up B17.out b7x)) (opds_two (by simp) (by simp) qx))
  rw [Lfc.aw_res2] at C6
  have B7X := Lib.hid b7x
  clear b8 b9 bx qx b7x
  go_wp2_with fail
  refine C6.out.mono ?_
  rintro e wy ⟨⟨vy, rfl, hvy⟩, by_⟩
  obtain ⟨ky, ny, py, usy, Ay, cy, ey, rfl⟩ := TreeV.node3 hvy
  obtain ⟨wz, hwz⟩ : ∃ wz, wy.alloc (.cells #[.int .i64 ky, S ny, .int .i64 py, .slice Ay usy.length cy] 39) = wz := ⟨_, rfl⟩
  have bz : Below wy.heap.size wy wz := by rw [← hwz]; exact (Below.refl _ _).alloc (Nat.le_refl _) _
  have b7z := up B7X.out (up by_ bz)
  have HWZ := Lib.hid hwz
  have CA := Lib.hid (show Calls Tryd.prog 12 #[.slice A1 1 c1, .agg #[S [43], .int .i64 1, .int .i64 0]] wz (AddPost wz [Lfc.plusO] ⟨[43], 1, 0⟩) from opAdd_any [Lfc.plusO] ⟨[43], 1, 0⟩ A1 c1 wz (by simp) (by decide) (HO1.out.below (up B17.out b7z)))
  have B7Z := Lib.hid b7z
  clear hvy by_ bz b7z hwz hwx ey C6
  go_upto_region 4 with fail
  rw [HWZ.out]
  go_wp2_with fail
  refine CA.out.mono ?_
  unfold AddPost
  rw [Lfc.aw_add2]
  rintro e wq ⟨⟨Aq, cq, rfl, _⟩, bq⟩
  simp only [List.length_cons, List.length_nil, Nat.zero_add] at *
  have b7q := up B7Z.out bq
  obtain ⟨x0, x1, x2, x3⟩ := cells4 ((b7q.block _ h7lt).trans Q7.out)
  have CF := Lib.hid (show Calls Tryd.prog 20 #[.agg #[.int .i64 k6, S n6, .int .i64 p6, .slice A6 us6.length c6], .slice none 0 0] wq _ from rFormat_any Lfc.awT _ [] none 0 wq (by decide) (HV7.out.below b7q) (by simp) (fun h => absurd h (by simp)))
  rw [Lfc.aw_fmt] at CF
  have HB := Lib.hid (up (up B1.out B17.out) b7q)
  clear b7q bq CA
  go_wp2_with fail
  refine CF.out.mono ?_
  rintro e wt ⟨rfl, bt⟩
  go_wp2_with fail
  go_ret
  exact ⟨rfl, HB.out.trans (bt.mono HB.out.size)⟩
end Go.Proofs.YtkhfnkokdmoipaaDoor
