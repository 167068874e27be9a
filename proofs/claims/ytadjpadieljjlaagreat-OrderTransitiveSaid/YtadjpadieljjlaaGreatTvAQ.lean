/- Parts of the proof that no input makes the law false: OcBoth, OcChk, OcChk2. -/
import Derived.Test.YtadjpadieljjlaaGreatTvAD
import Derived.Test.YtadjpadieljjlaaGreatTvAH
import Derived.Test.YtadjpadieljjlaaGreatTvAI
import Derived.Test.YtadjpadieljjlaaGreatTvAK
import Derived.Test.YtadjpadieljjlaaGreatTvAP
set_option linter.unusedVariables false
set_option linter.unusedSimpArgs false
namespace Lfc
mutual
def odsOf : Ord → Ord → Ods
 | .node k a ps, .node _ a' ps' => if k = 2 then .lex (odsOfs ps ps') else if k = 3 then .sim (odsOfs ps ps') else .arg a.toNat a'.toNat
def odsOfs : List Ord → List Ord → List Ods
 | a :: r, b :: r' => odsOf a b :: odsOfs r r'
 | [], _ => []
 | _ :: _, [] => []
end
theorem forms_atO : ∀ (ps : List Ord), Ord.forms ps = true → ∀ (i : Nat) (h : i < ps.length), ps[i].form = true
 | [], _, i, h => by cases h
 | a :: r, h, i, hi => by
  rw [Ord.forms, Bool.and_eq_true] at h
  cases i with
  | zero => exact h.1
  | succ i => exact forms_atO r h.2 i (by simpa using hi)
theorem rngs_atO (lo hi : Int) : ∀ (ps : List Ord), Ord.rngs lo hi ps = true → ∀ (i : Nat) (h : i < ps.length), ps[i].rng lo hi = true
 | [], _, i, h => by cases h
 | a :: r, h, i, hi' => by
  rw [Ord.rngs, Bool.and_eq_true] at h
  cases i with
  | zero => exact h.1
  | succ i => exact rngs_atO lo hi r h.2 i (by simpa using hi')
theorem odsOfs_len : ∀ (ps ps' : List Ord), ps.length = ps'.length → (odsOfs ps ps').length = ps.length
 | [], _, _ => by simp [odsOfs]
 | a :: r, b :: r', h => by simp [odsOfs, odsOfs_len r r' (by simpa using h)]
 | _ :: _, [], h => by simp at h
theorem odsOfs_take : ∀ (ps ps' : List Ord) (k : Nat) (h : k < ps.length) (h' : k < ps'.length), odsOfs (ps.take (k + 1)) (ps'.take (k + 1)) = odsOfs (ps.take k) (ps'.take k) ++ [odsOf ps[k] ps'[k]]
 | [], _, _, h, _ => by cases h
 | _ :: _, [], _, _, h => by cases h
 | a :: r, b :: r', 0, _, _ => by simp [odsOfs]
 | a :: r, b :: r', k + 1, h, h' => by
  have := odsOfs_take r r' k (by simpa using h) (by simpa using h')
  simp only [List.take_succ_cons, odsOfs, List.getElem_cons_succ, List.cons_append]
  rw [this]
end Lfc
namespace Go.Proofs.YtadjpadieljjlaaGreat
open Go.RowKit Go.Maps
theorem ordsInfo : (Tryz.prog.info? 87).map (fun i => (i.zero, i.size, i.bytes)) = some (some .nilIface, 1, 16) := by kernel_rfl
def BoI (w2 : World) (os : List Lfc.Ods) (v : Value) (wr : World) : Prop := ∃ xs, wr.ownsRow w2.heap.size 87 1 v os.length xs ∧ ODRow (fun b => w2.heap.size ≤ b ∧ v.ownBlock ≠ some b) wr os xs ∧ Below w2.heap.size w2 wr
theorem BoI.step {w2 wr w9 w10 : World} {os : List Lfc.Ods} {v v' u : Value} {p : Lfc.Ods} {xs : List Value} {o : Obj} (hown : wr.ownsRow w2.heap.size 87 1 v os.length xs) (hrow : ODRow (fun b => w2.heap.size ≤ b ∧ v.ownBlock ≠ some b) wr os xs) (hb : Below w2.heap.size w2 wr) (b9 : Below wr.heap.size wr w9) (hp : OdsP (fun b => wr.heap.size ≤ b) w9 p u)
  (hown' : w10.ownsRow w2.heap.size 87 1 v' (os.length + 1) (xs ++ [u])) (hg : (w9.alloc o).grownBy w10 v.ownBlock) (hloc : v'.ownBlock = v.ownBlock ∨ v'.ownBlock = some (w9.heap.size + 1)) : BoI w2 (os ++ [p]) v' w10 := by
 have hs9 := b9.size
 have hs10 : w9.heap.size + 1 ≤ w10.heap.size := by have := hg.size; simpa using this
 have hs2 := hb.size
 have hlt : ∀ b, v.ownBlock = some b → w2.heap.size ≤ b ∧ b < wr.heap.size := fun b e => hown.lt b e
 have hold : ∀ b, v.ownBlock ≠ some b → b < w9.heap.size → w10.heap[b]? = w9.heap[b]? := fun b hne hlt => (hg.block b (by simp; omega) (fun e => hne e.symm)).trans (Lib.alloc_old _ _ _ hlt)
 have hne' : ∀ b, b < w9.heap.size → v.ownBlock ≠ some b → v'.ownBlock ≠ some b := fun b hlt hne e => by
  rcases hloc with e2 | e2
  ·exact hne (e2 ▸ e)
  ·rw [e2] at e; have := Option.some.inj e; omega
 refine ⟨_, by rw [List.length_append]; exact hown', ODRow.append (us := [p]) (zs := [u]) ⟨u, [], rfl, OdsP.keep (fun b hb2 hlt2 => ?_) (by omega) (fun b hlt2 hb2 => ?_) p u hp, rfl⟩ (hrow.keep (fun b hq hlt2 => (hold b hq.2 (by omega)).trans (b9.block b hlt2)) (by omega) (fun b hlt2 hq => ⟨hq.1, hne' b (by omega) hq.2⟩)), ?_⟩
 ·have hb2 : wr.heap.size ≤ b := hb2
  exact hold b (fun e => by have := (hlt b e).2; omega) hlt2
 ·have hb2 : wr.heap.size ≤ b := hb2
  exact ⟨by omega, hne' b hlt2 (fun e => by have := (hlt b e).2; omega)⟩
 ·exact Below.grown ((hb.trans (b9.mono hs2)).alloc (by omega) o) hg (by simp; omega) (fun b e => (hlt b e).1)
theorem BoI.fin {w2 wr : World} {os : List Lfc.Ods} {v : Value} (h : BoI w2 os v wr) : ∃ A c, v = .slice A os.length c ∧ os.length ≤ c ∧ (os ≠ [] → ∃ b o, A = some ⟨b, o, none⟩ ∧ b < wr.heap.size ∧ w2.heap.size ≤ b ∧ OdssP (fun b => w2.heap.size ≤ b) wr b os o) := by
 obtain ⟨xs, hown, hrow, hb⟩ := h
 rcases hown.2 with ⟨rfl, e0⟩ | ⟨g, cap, cur, rfl, hbg, hg, hnc, _, _, _⟩
 ·have : os = [] := List.length_eq_zero_iff.1 e0
  exact ⟨none, 0, by rw [e0], by omega, fun h => absurd this h⟩
 ·refine ⟨_, cap, rfl, hnc, fun _ => ⟨g, 0, rfl, lt_of_block hg, hbg, ?_⟩⟩
  refine (ODRow.keep (fun _ _ _ => rfl) (Nat.le_refl _) (fun b _ hb => hb.1) hrow).lie (fun j u hj => ?_)
  have := hown.cells (g := g) rfl j u hj
  rw [ocell_add] at this
  simpa using this
set_option maxRecDepth 100000 in
set_option maxHeartbeats 8000000 in
theorem oBoth_upto (m : Nat) (hmm : m ≤ 1000) (hi1 hi2 : Int) : ∀ (o o' : Lfc.Ord) (v v' : Value) (w : World), o.size ≤ m → o.shp o' = true → o.form = true → o'.form = true → o.rng 0 hi1 = true → o'.rng 0 hi2 = true → OrdV w o v → OrdV w o' v' →
  Calls Tryz.prog 36 #[v, v'] w fun e w' => (∃ T a, e = .returned (.iface T a) ∧ OdsP (fun b => w.heap.size ≤ b) w' (Lfc.odsOf o o') (.iface T a)) ∧ Below w.heap.size w w' := by
 induction m with
 | zero => intro o o' v v' w h; have := o.size_pos; omega
 | succ m ih0 =>
  intro o o' v v' w hm hsh hfo hfo' hr hr' hv hv'
  have ih := ih0 (by omega)
  clear ih0
  obtain ⟨kd, ar, ts⟩ := o
  obtain ⟨kd', ar', us⟩ := o'
  rw [Lfc.Ord.shp, Bool.and_eq_true, decide_eq_true_eq] at hsh
  obtain ⟨rfl, hshs⟩ := hsh
  have hlen := ((Lfc.shps_spec ts us).1 hshs).1
  obtain ⟨A, c, rfl, hc, hA⟩ := hv.open_
  obtain ⟨A', c', rfl, hc', hA'⟩ := hv'.open_
  rw [← hlen]
  simp only [Lfc.Ord.size] at hm
  have hsl := Lfc.Ord.sizes_len ts
  obtain ⟨n, hn⟩ : ∃ n, ts.length = n := ⟨_, rfl⟩
  have hkd : (kd = 1 ∧ n = 0 ∧ 0 ≤ ar ∧ 0 ≤ ar') ∨ kd = 2 ∨ kd = 3 := by
   rw [Lfc.Ord.form] at hfo
   rw [Lfc.Ord.rng] at hr hr'
   by_cases h1 : kd = 1
   ·rw [if_pos h1] at hfo hr hr'
    simp only [decide_eq_true_eq, Bool.and_eq_true] at hfo hr hr'
    exact .inl ⟨h1, by omega, hr.1, hr'.1⟩
   ·rw [if_neg h1] at hfo
    by_cases h2 : kd = 2 ∨ kd = 3
    ·exact .inr h2
    ·rw [if_neg h2] at hfo; cases hfo
  have hparts : kd ≠ 1 → (∀ i (h : i < ts.length) (h' : i < us.length), ts[i].shp us[i] = true ∧ ts[i].form = true ∧ us[i].form = true ∧ ts[i].rng 0 hi1 = true ∧ us[i].rng 0 hi2 = true) := fun h1 i h h' => by
   rw [Lfc.Ord.form, if_neg h1] at hfo hfo'
   rw [Lfc.Ord.rng, if_neg h1] at hr hr'
   have h2 : kd = 2 ∨ kd = 3 := by rcases hkd with h | h | h <;> omega
   rw [if_pos h2] at hfo hfo'
   simp only [Bool.and_eq_true] at hfo hfo'
   exact ⟨((Lfc.shps_spec ts us).1 hshs).2 i h h', Lfc.forms_atO ts hfo.2 i h, Lfc.forms_atO us hfo'.2 i h', Lfc.rngs_atO 0 hi1 ts hr i h, Lfc.rngs_atO 0 hi2 us hr' i h'⟩
  have HPT := Lib.hid hparts
  have IH := Lib.hid ih
  obtain ⟨i0, hi, hz0, hz1, hz2⟩ := info_parts ordsInfo
  obtain ⟨w1, hw1⟩ : ∃ w1, w.alloc (.cells #[.int .i64 kd, .int .i64 ar, .slice A n c] 26) = w1 := ⟨_, rfl⟩
  obtain ⟨w2, hw2⟩ : ∃ w2, w1.alloc (.cells #[.int .i64 kd, .int .i64 ar', .slice A' n c'] 26) = w2 := ⟨_, rfl⟩
  have b1 : Below w.heap.size w w1 := by rw [← hw1]; exact (Below.refl _ _).alloc (Nat.le_refl _) _
  have b2 : Below w1.heap.size w1 w2 := by rw [← hw2]; exact (Below.refl _ _).alloc (Nat.le_refl _) _
  have q1 : w1.heap[w.heap.size]? = some (.cells #[.int .i64 kd, .int .i64 ar, .slice A n c] 26 (0, 0)) := by rw [← hw1]; exact heap_alloc_new _ _
  have q2 : w2.heap[w1.heap.size]? = some (.cells #[.int .i64 kd, .int .i64 ar', .slice A' n c'] 26 (0, 0)) := by rw [← hw2]; exact heap_alloc_new _ _
  have l1 := lt_of_block q1
  have l2 := lt_of_block q2
  have b02 : Below w.heap.size w w2 := b1.trans (b2.mono (by omega))
  have s02 : w.heap.size ≤ w2.heap.size := by omega
  have Q1 := Lib.hid ((b2.block _ l1).trans q1)
  have Q2 := Lib.hid q2
  have B02 := Lib.hid b02
  have HA := Lib.hid (hA.below b02)
  have HA' := Lib.hid (hA'.below b02)
  obtain ⟨y0, y1, y2⟩ := cells3o Q1.out
  obtain ⟨z0, z1, z2⟩ := cells3o Q2.out
  have I0 : Hid (BoI w2 (Lfc.odsOfs (ts.take 0) (us.take 0)) (.slice none 0 0) w2) := Lib.hid (by
   rw [List.take_zero, List.take_zero, Lfc.odsOfs]
   exact ⟨[], World.ownsRow_nil w2 w2.heap.size _ 1, by rw [ODRow], Below.refl _ _⟩)
  have HM : Hid (∀ i (h : i < ts.length), ts[i].size ≤ m) := Lib.hid (fun i h => by have := Lfc.Ord.sizes_mem ts ts[i] (List.getElem_mem _); omega)
  have hnn : n ≤ 1000 := by omega
  have HN := Lib.hid hn
  have HLU := Lib.hid hlen
  rw [hn]
  clear hA hA' hv hv' b1 b2 q1 q2 b02 hfo hfo' hr hr' hshs hparts ih hlen hn hm hsl hc hc'
  go_enter Tryz.func36, Tryz.ntmps36
  go_wp2_with fail
  go_loopw [5, 10] (fun v i wr => ∃ k : Nat, k ≤ n ∧ i = .int .i64 (k : Int) ∧ Hid (BoI w2 (Lfc.odsOfs (ts.take k) (us.take k)) v wr)) (fun _ i _ => n - (intOf i).toNat)
  case atStart => exact ⟨0, by omega, rfl, I0⟩
  case round =>
   clear I0 hw1 hw2 y0 y1 y2 z0 z1 z2
   obtain ⟨k, hk, rfl, HI⟩ := hrel
   by_cases hlt : k < n
   ·have hkd1 : kd ≠ 1 := by rcases hkd with h | h | h <;> omega
    have hltT : k < ts.length := by rw [HN.out]; exact hlt
    have hltU : k < us.length := by rw [← HLU.out]; exact hltT
    obtain ⟨os, hos⟩ : ∃ os, Lfc.odsOfs (ts.take k) (us.take k) = os := ⟨_, rfl⟩
    have hol : os.length = k := by rw [← hos, Lfc.odsOfs_len _ _ (by simp; omega)]; simp; omega
    have HTK := Lib.hid (Lfc.odsOfs_take ts us k hltT hltU)
    rw [hos] at HI HTK
    obtain ⟨xs, hown, hrow, hbw⟩ := HI.out
    obtain ⟨b, o, k1, a1, ss, B, c1, rfl, hb, ht, d0, d1, d2, hcu, hB, hT⟩ := (HA.out.below hbw).at_ hltT
    obtain ⟨b', o', k2, a2, rr, B', c2, rfl, hb', ht', e0, e1, e2, hcu', hB', hT'⟩ := (HA'.out.below hbw).at_ hltU
    obtain ⟨y0, y1, y2⟩ := cells3o ((hbw.block _ (by omega)).trans Q1.out)
    obtain ⟨z0, z1, z2⟩ := cells3o ((hbw.block _ l2).trans Q2.out)
    have hi0 : (0 : Int) ≤ (k : Int) := Int.natCast_nonneg _
    have hi1' : (k : Int) < (n : Int) := by omega
    obtain ⟨p1, p2, p3, p4, p5⟩ := HPT.out hkd1 k hltT hltU
    have hbd := (Below.refl wr.heap.size wr).drew
    have CA := Lib.hid (IH.out ts[k] us[k] _ _ wr.drew (HM.out k hltT) p1 p2 p3 p4 p5 (hT.below hbd) (hT'.below hbd))
    have HROW := Lib.hid hrow
    have HBW := Lib.hid hbw
    rw [hol] at hown
    have HOWN := Lib.hid hown
    have HOL := Lib.hid hol
    have hlm : k + 1 ≤ maxLen := by unfold maxLen; omega
    have hl16 : (k + 1) * 16 ≤ 140737488355328 := by omega
    have hsw := hbw.size
    have S0 : Hid (∀ W, Below wr.heap.size wr W → (W.cell? ⟨w.heap.size, 2, none⟩ = some (.slice (some ⟨b, o, none⟩) n c) ∧ W.cell? ⟨w1.heap.size, 2, none⟩ = some (.slice (some ⟨b', o', none⟩) n c')) ∧ (W.cell? ⟨b, o + k * 3, none⟩ = some (.int .i64 k1) ∧ W.cell? ⟨b, o + k * 3 + 1, none⟩ = some (.int .i64 a1) ∧ W.cell? ⟨b, o + k * 3 + 2, none⟩ = some (.slice B ss.length c1)) ∧ (W.cell? ⟨b', o' + k * 3, none⟩ = some (.int .i64 k2) ∧ W.cell? ⟨b', o' + k * 3 + 1, none⟩ = some (.int .i64 a2) ∧ W.cell? ⟨b', o' + k * 3 + 2, none⟩ = some (.slice B' rr.length c2))) := Lib.hid (fun W hW => ⟨⟨(hW.cell (p := ⟨w.heap.size, 2, none⟩) (by simp only; omega)).trans y2, (hW.cell (p := ⟨w1.heap.size, 2, none⟩) (by simp only; omega)).trans z2⟩, ⟨(hW.cell (p := ⟨b, _, none⟩) hb).trans d0, (hW.cell (p := ⟨b, _, none⟩) hb).trans d1, (hW.cell (p := ⟨b, _, none⟩) hb).trans d2⟩, ⟨(hW.cell (p := ⟨b', _, none⟩) hb').trans e0, (hW.cell (p := ⟨b', _, none⟩) hb').trans e1, (hW.cell (p := ⟨b', _, none⟩) hb').trans e2⟩⟩)
    clear hown hrow hbw hT hT' hB hB' ht ht' HI hcu hcu' p1 p2 p3 p4 p5 hbd hol y0 y1 y2 z0 z1 z2
    obtain ⟨⟨v1, v2⟩, ⟨v3, v4, v5⟩, ⟨v6, v7, v8⟩⟩ := S0.out wr (Below.refl _ _)
    clear S0
    go_upto_region 5 with fail
    go_region_law (first
     | (go_simp; go_at_call 36; refine CA.out.mono ?_; rintro e w9 ⟨⟨T9, a9, rfl, hp9⟩, b9'⟩; have b9 : Below wr.heap.size wr w9 := (Below.refl _ _).drew.trans b9'; have hown9 := ownsRow_keep HOWN.out (fun g hg => b9.block g (HOWN.out.lt g hg).2); have hs9 : w2.heap.size ≤ w9.heap.size := Nat.le_trans hsw b9.size)
     | (refine step_append_own_at _ (by rfl) _ _ 118 (by rfl) w2.heap.size 87 i0 .nilIface 1 16 Tryz.underlying118 hi hz0 hz1 hz2 rfl (by decide) _ _ _ (by rfl) (hown9.alloc _) ⟨w9.heap.size, 0, none⟩ 1 1 [.iface T9 a9] (by rfl) (by rfl) (fun j u h => ocells_new w9 _ rfl [.iface T9 a9] _ j u h) (fun u hu => by simp at hu; subst hu; rfl) hlm hl16 (oalloc_le hs9) ?_; intro v' w10 hown10 hg10 hloc10))
    all_goals
     have HNX : Hid (BoI w2 (Lfc.odsOfs (ts.take (k + 1)) (us.take (k + 1))) v' w10) := Lib.hid (by
      rw [HTK.out]
      exact BoI.step (by rw [HOL.out]; exact HOWN.out) HROW.out HBW.out b9 hp9 (by rw [HOL.out]; exact hown10) hg10 (oalloc_loc hloc10))
     clear hown10 hg10 hloc10 hp9 b9 hown9
     go_wp2_with fail
     go_roundw
     case rel => exact ⟨k + 1, by omega, by go_num, HNX⟩
     case measure => simp [intOf]; omega
   ·obtain rfl : n = k := by omega
    have hbw : Below w2.heap.size w2 wr := by obtain ⟨xs, _, _, h⟩ := HI.out; exact h
    obtain ⟨y0, y1, y2⟩ := cells3o ((hbw.block _ (by omega)).trans Q1.out)
    obtain ⟨z0, z1, z2⟩ := cells3o ((hbw.block _ l2).trans Q2.out)
    have htl : ts.take n = ts := by rw [← HN.out]; exact List.take_length
    have hul : us.take n = us := by rw [← HN.out, HLU.out]; exact List.take_length
    have HB0 := Lib.hid (B02.out.trans (hbw.mono s02))
    rw [htl, hul] at HI
    obtain ⟨A9, c9, e9, hc9, hS9⟩ := HI.out.fin
    have hq9 : ∀ b, b < wr.heap.size → w2.heap.size ≤ b → w.heap.size ≤ b := fun b _ hb => by omega
    have hos : (Lfc.odsOfs ts us).length = n := by rw [Lfc.odsOfs_len _ _ HLU.out, HN.out]
    have HFIN : Hid (Lfc.odsOfs ts us ≠ [] → ∃ b o, A9 = some ⟨b, o, none⟩ ∧ b < wr.heap.size ∧ w.heap.size ≤ b ∧ OdssP (fun b => w.heap.size ≤ b) wr b (Lfc.odsOfs ts us) o) := Lib.hid (fun hne => by
     obtain ⟨b, o, hA, hb, hq, h⟩ := hS9 hne
     exact ⟨b, o, hA, hb, by omega, OdssP.keep (fun _ _ _ => rfl) (Nat.le_refl _) hq9 _ _ _ hb hq h⟩)
    have HOS := Lib.hid hos
    have HC9 := Lib.hid hc9
    have HE9 := Lib.hid e9
    subst e9
    clear HI hS9 hbw htl hul hq9 hos hc9
    rcases hkd with ⟨rfl, rfl, ha, ha'⟩ | rfl | rfl
    ·have HZ : Hid ((∃ T a, Ending.returned (.iface 123 (.agg #[.int .i64 ar, .int .i64 ar'])) = .returned (.iface T a) ∧ OdsP (fun b => w.heap.size ≤ b) wr (Lfc.odsOf (.node 1 ar ts) (.node 1 ar' us)) (.iface T a)) ∧ Below w.heap.size w wr) := Lib.hid ⟨⟨_, _, rfl, by
      rw [Lfc.odsOf, if_neg (by decide), if_neg (by decide), OdsP, Int.toNat_of_nonneg ha, Int.toNat_of_nonneg ha']⟩, HB0.out⟩
     clear HFIN HOS HC9 HE9
     go_wp2_with fail
     go_ret
     exact HZ.out
    ·have HZ : Hid ((∃ T a, Ending.returned (.iface 120 (.agg #[.slice A9 (Lfc.odsOfs ts us).length c9])) = .returned (.iface T a) ∧ OdsP (fun b => w.heap.size ≤ b) wr (Lfc.odsOf (.node 2 ar ts) (.node 2 ar' us)) (.iface T a)) ∧ Below w.heap.size w wr) := Lib.hid ⟨⟨_, _, rfl, by
      rw [Lfc.odsOf, if_pos rfl, OdsP]; exact ⟨A9, c9, rfl, HC9.out, HFIN.out⟩⟩, HB0.out⟩
     clear HFIN HOS HC9 HE9
     go_wp2_with fail
     go_ret
     exact HZ.out
    ·have HZ : Hid ((∃ T a, Ending.returned (.iface 121 (.agg #[.slice A9 (Lfc.odsOfs ts us).length c9])) = .returned (.iface T a) ∧ OdsP (fun b => w.heap.size ≤ b) wr (Lfc.odsOf (.node 3 ar ts) (.node 3 ar' us)) (.iface T a)) ∧ Below w.heap.size w wr) := Lib.hid ⟨⟨_, _, rfl, by
      rw [Lfc.odsOf, if_neg (by decide), if_pos rfl, OdsP]; exact ⟨A9, c9, rfl, HC9.out, HFIN.out⟩⟩, HB0.out⟩
     clear HFIN HOS HC9 HE9
     go_wp2_with fail
     go_ret
     exact HZ.out
end Go.Proofs.YtadjpadieljjlaaGreat
namespace Lfc
def flat : List Fact → List Raw
 | [] => []
 | f :: r => f.l :: f.r :: flat r
theorem flat_app : ∀ (x : List Fact) (f : Fact), flat (x ++ [f]) = flat x ++ [f.l, f.r]
 | [], f => rfl
 | a :: r, f => by simp [flat, flat_app r f]
theorem flat_len : ∀ (x : List Fact), (flat x).length = 2 * x.length
 | [] => rfl
 | a :: r => by simp [flat, flat_len r]; omega
def chkF (fs : List Fact) (o p : Ord) (ts us : List Raw) : Int :=
 if firstE (flat fs ++ ts ++ us) ≠ 0 then firstE (flat fs ++ ts ++ us) else if allO (flat fs ++ ts ++ us) = false then 32 else if o.vld ts.length ≠ 0 then o.vld ts.length else if p.vld us.length ≠ 0 then p.vld us.length else if o.shp p = false then 92 else 0
end Lfc
namespace Go.Proofs.YtadjpadieljjlaaGreat
open Go.RowKit Go.Maps
theorem FactsP.at_ {q : Nat → Prop} {w : World} {F : Option Addr} {fs : List Lfc.Fact} (h : FactsP q w F fs) {i : Nat} (hi : i < fs.length) : ∃ b o, F = some ⟨b, o, none⟩ ∧ b < w.heap.size ∧ q b ∧ FactO q w b (o + i * 9) fs[i] := by
 obtain ⟨b, o, hF, hlt, hb, hf⟩ := h (by intro h0; rw [h0] at hi; cases hi)
 exact ⟨b, o, hF, hlt, hb, hf i hi⟩
set_option maxRecDepth 100000 in
set_option maxHeartbeats 1000000 in
theorem oChk1_any (k p k' p' rel : Int) (n n' : List UInt8) (A A' : Option Addr) (x c x' c' : Nat) (w : World) (hr : rel = 1 ∨ rel = 2 ∨ rel = 3) :
  Calls Tryz.prog 63 #[.agg #[.int .i64 k, S n, .int .i64 p, .slice A x c, .int .i64 rel, .int .i64 k', S n', .int .i64 p', .slice A' x' c']] w fun e w' => e = .returned (.bool false) ∧ Below w.heap.size w w' := by
 obtain ⟨w1, hw1⟩ : ∃ w1, w.alloc (.cells #[.int .i64 k, S n, .int .i64 p, .slice A x c, .int .i64 rel, .int .i64 k', S n', .int .i64 p', .slice A' x' c'] 70) = w1 := ⟨_, rfl⟩
 have b1 : Below w.heap.size w w1 := by rw [← hw1]; exact (Below.refl _ _).alloc (Nat.le_refl _) _
 have q1 : w1.heap[w.heap.size]? = some (.cells #[.int .i64 k, S n, .int .i64 p, .slice A x c, .int .i64 rel, .int .i64 k', S n', .int .i64 p', .slice A' x' c'] 70 (0, 0)) := by rw [← hw1]; exact heap_alloc_new _ _
 have y4 : w1.cell? ⟨w.heap.size, 4, none⟩ = some (.int .i64 rel) := Lib.cell_of_heap q1 4
 have CR := Lib.hid (oRel_any rel w1)
 have hb : (rel == 1 || rel == 2 || rel == 3) = true := by rcases hr with rfl | rfl | rfl <;> rfl
 rw [hb] at CR
 have B1 := Lib.hid b1
 clear b1 q1 hb
 go_enter Tryz.func63, Tryz.ntmps63
 go_wp2_with fail
 refine CR.out.mono ?_
 rintro e w2 ⟨rfl, rfl⟩
 go_wp2_with fail
 go_ret
 exact ⟨rfl, B1.out⟩
set_option maxRecDepth 100000 in
set_option maxHeartbeats 2000000 in
theorem idxFact_any (q : Nat → Prop) (fs : List Lfc.Fact) (F : Option Addr) (f0 : Nat) (w : World) (hn : fs.length ≤ 1000) (hF : FactsP q w F fs) (hr : ∀ f ∈ fs, f.rel = 1 ∨ f.rel = 2 ∨ f.rel = 3) :
  Calls Tryz.prog 92 #[.slice F fs.length f0, .func (.func 63) #[] #[]] w fun e w' => e = .returned (.int .i64 (-1)) ∧ Below w.heap.size w w' := by
 have HF := Lib.hid hF
 have HR := Lib.hid hr
 obtain ⟨n, hnn⟩ : ∃ n, fs.length = n := ⟨_, rfl⟩
 rw [hnn] at hn ⊢
 have HN := Lib.hid hnn
 have B0 := Lib.hid (Below.refl w.heap.size w)
 clear hF hr hnn
 go_enter Tryz.func92, Tryz.ntmps92
 go_wp2_with fail
 go_loopw [8] (fun i wr => ∃ k : Nat, k ≤ n ∧ i = .int .i64 (k : Int) ∧ Hid (Below w.heap.size w wr)) (fun i _ => n - (intOf i).toNat)
 case atStart => exact ⟨0, by omega, rfl, B0⟩
 case round =>
  clear B0
  obtain ⟨k, hk, rfl, HB⟩ := hrel
  by_cases hlt : k < n
  ·have hlt2 : k < fs.length := by rw [HN.out]; exact hlt
   obtain ⟨b, o, rfl, hb, hqb, kk, nm, p, ts, A, c, k', n', p', ts', A', c', e1, e2, ⟨d0, d1, d2, d3⟩, d4, ⟨d5, d6, d7, d8⟩, v1, v2⟩ := (HF.out.below HB.out).at_ hlt2
   have hi0 : (0 : Int) ≤ (k : Int) := Int.natCast_nonneg _
   have hi1 : (k : Int) < (n : Int) := by omega
   have CC := Lib.hid (oChk1_any kk p k' p' fs[k].rel nm n' A A' ts.length c ts'.length c' wr (HR.out _ (List.getElem_mem _)))
   obtain ⟨rr, hrr⟩ : ∃ rr, fs[k].rel = rr := ⟨_, rfl⟩
   rw [hrr] at CC d4
   clear v1 v2 e1 e2 hrr hqb
   go_wp2_with fail
   refine CC.out.mono ?_
   rintro e w2 ⟨rfl, b2⟩
   have HB2 := Lib.hid (HB.out.trans (b2.mono HB.out.size))
   clear b2 d0 d1 d2 d3 d4 d5 d6 d7 d8 CC
   go_wp2_with fail
   go_roundw
   case rel => exact ⟨k + 1, by omega, by go_num, HB2⟩
   case measure => simp [intOf]; omega
  ·obtain rfl : k = n := by omega
   go_wp2_with fail
   go_ret
   exact ⟨rfl, HB.out⟩
set_option maxRecDepth 100000 in
set_option maxHeartbeats 1000000 in
theorem conFact_any (q : Nat → Prop) (fs : List Lfc.Fact) (F : Option Addr) (f0 : Nat) (w : World) (hn : fs.length ≤ 1000) (hF : FactsP q w F fs) (hr : ∀ f ∈ fs, f.rel = 1 ∨ f.rel = 2 ∨ f.rel = 3) :
  Calls Tryz.prog 62 #[.slice F fs.length f0, .func (.func 63) #[] #[]] w fun e w' => e = .returned (.bool false) ∧ Below w.heap.size w w' := by
 have C := Lib.hid (idxFact_any q fs F f0 w hn hF hr)
 clear hF hr
 go_enter Tryz.func62, Tryz.ntmps62
 go_wp2_with fail
 refine C.out.mono ?_
 rintro e w2 ⟨rfl, b2⟩
 have B2 := Lib.hid b2
 clear b2
 go_wp2_with fail
 go_ret
 exact ⟨rfl, B2.out⟩
theorem ownsRow_keepC {w w' : World} {base : Nat} {e : TypeId} {size n : Nat} {v : Value} {xs : List Value} (h : w.ownsRow base e size v n xs) (hk : ∀ g, v.ownBlock = some g → w'.heap[g]? = w.heap[g]?) : w'.ownsRow base e size v n xs := by
 refine ⟨h.1, h.2.imp id ?_⟩
 rintro ⟨g, cap, cur, rfl, hb, hg, rest⟩
 exact ⟨g, cap, cur, rfl, hb, (hk g rfl).trans hg, rest⟩
def GaI (q : Nat → Prop) (w2 : World) (l : List Lfc.Raw) (v : Value) (wr : World) : Prop := ∃ xs, wr.ownsRow w2.heap.size 51 4 v l.length xs ∧ RowP (fun b => b < w2.heap.size) wr l xs ∧ Below w2.heap.size w2 wr
end Go.Proofs.YtadjpadieljjlaaGreat
namespace Go.Proofs.YtadjpadieljjlaaGreat
open Go.RowKit Go.Maps
theorem GaI.step {q : Nat → Prop} {w2 wr w9 w10 : World} {l : List Lfc.Raw} {f : Lfc.Fact} {v v' : Value} {xs : List Value} {o : Obj} {k p k' p' : Int} {n n' : List UInt8} {ts ts' : List Lfc.Raw} {A A' : Option Addr} {c c' : Nat} (hown : wr.ownsRow w2.heap.size 51 4 v l.length xs) (hrow : RowP (fun b => b < w2.heap.size) wr l xs) (hb : Below w2.heap.size w2 wr) (b9 : Below wr.heap.size wr w9)
  (hl : TreeVP (fun b => b < w2.heap.size) w2 f.l (.agg #[.int .i64 k, S n, .int .i64 p, .slice A ts.length c])) (hr : TreeVP (fun b => b < w2.heap.size) w2 f.r (.agg #[.int .i64 k', S n', .int .i64 p', .slice A' ts'.length c']))
  (hown' : w10.ownsRow w2.heap.size 51 4 v' (l.length + 2) (xs ++ [.int .i64 k, S n, .int .i64 p, .slice A ts.length c, .int .i64 k', S n', .int .i64 p', .slice A' ts'.length c'])) (hg : (w9.alloc o).grownBy w10 v.ownBlock) : GaI q w2 (l ++ [f.l, f.r]) v' w10 := by
 have hs2 := hb.size
 have hs9 := b9.size
 have h10 : Below w2.heap.size w2 w10 := Below.grown ((hb.trans (b9.mono hs2)).alloc (by omega) o) hg (by simp; omega) (fun b e => (hown.lt b e).1)
 have hk : ∀ b, b < w2.heap.size → b < wr.heap.size → w10.heap[b]? = wr.heap[b]? := fun b hb2 _ => (h10.block b hb2).trans (hb.block b hb2).symm
 obtain ⟨_, _, _, _, e, hP⟩ := hl
 cases e
 obtain ⟨_, _, _, _, e, hP'⟩ := hr
 cases e
 refine ⟨_, by rw [List.length_append]; exact hown', RowP.append ?_ (RowP.keep hk (by have := h10.size; have := hg.size; simp at this; omega) (fun _ _ h => h) hrow), h10⟩
 rw [RowP]
 refine ⟨_, _, _, _, _, rfl, TreeP.keep (fun b hb2 _ => h10.block b hb2) h10.size (fun _ _ h => h) _ _ _ _ _ hP, ?_⟩
 rw [RowP]
 exact ⟨_, _, _, _, [], rfl, TreeP.keep (fun b hb2 _ => h10.block b hb2) h10.size (fun _ _ h => h) _ _ _ _ _ hP', by rw [RowP]⟩
theorem oneCell8 {k p k' p' : Int} {n n' : List UInt8} {A A' : Option Addr} {l c l' c' : Nat} : ∀ u ∈ [Value.int .i64 k, S n, .int .i64 p, .slice A l c, .int .i64 k', S n', .int .i64 p', .slice A' l' c'], u.oneCell' = true := by
 intro u hu
 simp only [List.mem_cons, List.not_mem_nil, or_false] at hu
 rcases hu with rfl | rfl | rfl | rfl | rfl | rfl | rfl | rfl <;> rfl
set_option maxRecDepth 100000 in
set_option maxHeartbeats 8000000 in
theorem oCheckF_any (q : Nat → Prop) (fs : List Lfc.Fact) (F : Option Addr) (f0 : Nat) (rel : Int) (o p : Lfc.Ord) (vo vp : Value) (ts us : List Lfc.Raw) (L R : Option Addr) (cl cr : Nat) (w : World) (hfl : fs.length ≤ 64) (hF : FactsP q w F fs) (hrl : ∀ f ∈ fs, f.rel = 1 ∨ f.rel = 2 ∨ f.rel = 3) (hfz : ∀ f ∈ fs, f.l.size ≤ 1000000 ∧ f.r.size ≤ 1000000) (hrel : rel = 1 ∨ rel = 2 ∨ rel = 3) (hos : o.size ≤ 1000000) (hps : p.size ≤ 1000000) (hvo : OrdV w o vo) (hvp : OrdV w p vp)
  (hn : ts.length ≤ 1000) (hm : us.length ≤ 1000) (hst : ∀ t ∈ ts ++ us, t.size ≤ 1000000) (hL : L = none → ts.length = 0 ∧ cl = 0) (hR : R = none → us.length = 0 ∧ cr = 0) (hts : TreesAt w L ts) (hus : TreesAt w R us) :
  Calls Tryz.prog 35 #[.slice F fs.length f0, .int .i64 rel, vo, .slice L ts.length cl, vp, .slice R us.length cr] w fun e w' => e = .returned (.int .i64 (Lfc.chkF fs o p ts us)) ∧ Below w.heap.size w w' := by
 have HVO := Lib.hid hvo
 have HVP := Lib.hid hvp
 obtain ⟨A1, c1, k1, a1, l1, rfl⟩ : ∃ A c kd ar n, vo = .agg #[.int .i64 kd, .int .i64 ar, .slice A n c] := by
  obtain ⟨kd, ar, ts⟩ := o
  obtain ⟨A, c, rfl, hc, hA⟩ := hvo.open_
  exact ⟨A, c, kd, ar, _, rfl⟩
 obtain ⟨A2, c2, k2, a2, l2, rfl⟩ : ∃ A c kd ar n, vp = .agg #[.int .i64 kd, .int .i64 ar, .slice A n c] := by
  obtain ⟨kd, ar, ts⟩ := p
  obtain ⟨A, c, rfl, hc, hA⟩ := hvp.open_
  exact ⟨A, c, kd, ar, _, rfl⟩
 obtain ⟨xs1, hx1, hr1, hc1, ho1⟩ := treesAt_part hts
 obtain ⟨xs2, hx2, hr2, hc2, ho2⟩ := treesAt_part hus
 obtain ⟨all, hall⟩ : ∃ all, Lfc.flat fs ++ ts ++ us = all := ⟨_, rfl⟩
 obtain ⟨n, hnn⟩ : ∃ n, ts.length = n := ⟨_, rfl⟩
 obtain ⟨m, hmm⟩ : ∃ m, us.length = m := ⟨_, rfl⟩
 obtain ⟨nf, hnf⟩ : ∃ nf, fs.length = nf := ⟨_, rfl⟩
 have hlen : all.length = 2 * nf + n + m := by rw [← hall, List.length_append, List.length_append, Lfc.flat_len, hnn, hmm, hnf]
 have HST : Hid (∀ k (h : k < all.length), all[k].size ≤ 1000000) := Lib.hid (fun k h => by
  have hmem : all[k] ∈ Lfc.flat fs ++ ts ++ us := by rw [hall]; exact List.getElem_mem h
  rw [List.append_assoc] at hmem
  rcases List.mem_append.1 hmem with h1 | h1
  ·have : ∀ (l : List Lfc.Fact), (∀ f ∈ l, f.l.size ≤ 1000000 ∧ f.r.size ≤ 1000000) → ∀ t ∈ Lfc.flat l, t.size ≤ 1000000 := fun l => by
    induction l with
    | nil => intro _ t h; cases h
    | cons a r ih =>
     intro hf t ht
     simp only [Lfc.flat, List.mem_cons] at ht
     rcases ht with rfl | rfl | ht
     ·exact (hf a (List.mem_cons_self ..)).1
     ·exact (hf a (List.mem_cons_self ..)).2
     ·exact ih (fun f h => hf f (List.mem_cons_of_mem _ h)) t ht
   exact this fs hfz _ h1
  ·exact hst _ h1)
 have hcd : ∃ res, Lfc.chkF fs o p ts us = res := ⟨_, rfl⟩
 obtain ⟨res, hres⟩ := hcd
 obtain ⟨zo, hzo⟩ : ∃ zo, o.vld n = zo := ⟨_, rfl⟩
 obtain ⟨zp, hzp⟩ : ∃ zp, p.vld m = zp := ⟨_, rfl⟩
 obtain ⟨sh, hsh⟩ : ∃ sh, o.shp p = sh := ⟨_, rfl⟩
 have HRES : Hid ((Lfc.firstE all ≠ 0 → res = Lfc.firstE all) ∧ (Lfc.firstE all = 0 → Lfc.allO all = false → res = 32) ∧ (Lfc.firstE all = 0 → Lfc.allO all = true → ((zo ≠ 0 → res = zo) ∧ (zo = 0 → ((zp ≠ 0 → res = zp) ∧ (zp = 0 → ((sh = false → res = 92) ∧ (sh = true → res = 0)))))))) := Lib.hid (by
  unfold Lfc.chkF at hres
  rw [hall, hnn, hmm, hzo, hzp, hsh] at hres
  refine ⟨fun h => ?_, fun h h2 => ?_, fun h h2 => ⟨fun h3 => ?_, fun h3 => ⟨fun h4 => ?_, fun h4 => ⟨fun h5 => ?_, fun h5 => ?_⟩⟩⟩⟩
  ·rw [if_pos h] at hres; exact hres.symm
  ·rw [if_neg (by omega), if_pos h2] at hres; exact hres.symm
  ·rw [if_neg (by omega), if_neg (by rw [h2]; decide), if_pos h3] at hres; exact hres.symm
  ·rw [if_neg (by omega), if_neg (by rw [h2]; decide), if_neg (by omega), if_pos h4] at hres; exact hres.symm
  ·rw [if_neg (by omega), if_neg (by rw [h2]; decide), if_neg (by omega), if_neg (by omega), if_pos h5] at hres; exact hres.symm
  ·rw [if_neg (by omega), if_neg (by rw [h2]; decide), if_neg (by omega), if_neg (by omega), if_neg (by rw [h5]; decide)] at hres; exact hres.symm)
 rw [hres]
 rw [hnn] at hn hL hx1 ⊢
 rw [hmm] at hm hR hx2 ⊢
 rw [hnf] at hfl ⊢
 obtain ⟨w1, hw1⟩ : ∃ w1, w.alloc (.cells #[.int .i64 k1, .int .i64 a1, .slice A1 l1 c1] 26) = w1 := ⟨_, rfl⟩
 obtain ⟨w2, hw2⟩ : ∃ w2, w1.alloc (.cells #[.int .i64 k2, .int .i64 a2, .slice A2 l2 c2] 26) = w2 := ⟨_, rfl⟩
 have b1 : Below w.heap.size w w1 := by rw [← hw1]; exact (Below.refl _ _).alloc (Nat.le_refl _) _
 have b2 : Below w1.heap.size w1 w2 := by rw [← hw2]; exact (Below.refl _ _).alloc (Nat.le_refl _) _
 have q1 : w1.heap[w.heap.size]? = some (.cells #[.int .i64 k1, .int .i64 a1, .slice A1 l1 c1] 26 (0, 0)) := by rw [← hw1]; exact heap_alloc_new _ _
 have q2 : w2.heap[w1.heap.size]? = some (.cells #[.int .i64 k2, .int .i64 a2, .slice A2 l2 c2] 26 (0, 0)) := by rw [← hw2]; exact heap_alloc_new _ _
 have e1 := lt_of_block q1
 have e2 := lt_of_block q2
 have b02 : Below w.heap.size w w2 := b1.trans (b2.mono (by omega))
 have s02 : w.heap.size ≤ w2.heap.size := by omega
 have Q12 := Lib.hid ((b2.block _ e1).trans q1)
 have Q22 := Lib.hid q2
 have B02 := Lib.hid b02
 have HFS := Lib.hid (hF.keep (q' := fun b => q b ∧ b < w2.heap.size) (fun b _ hlt => b02.block b hlt) b02.size (fun b hlt hb => ⟨hb, by omega⟩))
 have HF2 := Lib.hid (hF.below b02)
 have HRL := Lib.hid hrl
 have HX := Lib.hid (And.intro (And.intro hx1 (And.intro hr1 (And.intro hc1 ho1))) (And.intro hx2 (And.intro hr2 (And.intro hc2 ho2))))
 have HLR := Lib.hid (And.intro hL hR)
 have HNF := Lib.hid hnf
 have HALL := Lib.hid hall
 have HLEN := Lib.hid hlen
 have HNM := Lib.hid (And.intro hzo (And.intro hzp (And.intro hsh (And.intro hos hps))))
 have CR : Hid (∀ W, Calls Tryz.prog 61 #[.int .i64 rel] W fun e w' => e = .returned (.bool true) ∧ w' = W) := Lib.hid (fun W => by
  have := oRel_any rel W
  rwa [show (rel == 1 || rel == 2 || rel == 3) = true by rcases hrel with rfl | rfl | rfl <;> rfl] at this)
 have I0 : Hid (GaI q w2 (Lfc.flat (fs.take 0)) (.slice none 0 0) w2) := Lib.hid ⟨[], World.ownsRow_nil w2 w2.heap.size _ 4, by rw [List.take_zero, Lfc.flat, RowP], Below.refl _ _⟩
 obtain ⟨i0, hi, hz0, hz1, hz2⟩ := info_parts termInfo
 have hnlt : n ≤ 1000 ∧ m ≤ 1000 := ⟨hn, hm⟩
 clear hvo hvp hx1 hr1 hc1 ho1 hx2 hr2 hc2 ho2 hall hnn hmm hlen hsh hst hL hR hts hus b1 b2 q1 q2 b02 hres hF hrl hfz hnf hzo hzp hrel hos hps
 go_enter Tryz.func35, Tryz.ntmps35
 go_wp2_with fail
 go_loopw [13, 25] (fun v i wr => ∃ k : Nat, k ≤ nf ∧ i = .int .i64 (k : Int) ∧ Hid (GaI q w2 (Lfc.flat (fs.take k)) v wr)) (fun _ i _ => nf - (intOf i).toNat)
 case atStart => exact ⟨0, by omega, rfl, I0⟩
 case round =>
  clear I0 hw1 hw2
  obtain ⟨k, hk, rfl, HI⟩ := hrel
  by_cases hlt : k < nf
  ·have hlt2 : k < fs.length := by rw [HNF.out]; exact hlt
   obtain ⟨xs, hown, hrow, hbw⟩ := HI.out
   have hfl2 : (Lfc.flat (fs.take k)).length = 2 * k := by rw [Lfc.flat_len, List.length_take]; omega
   have HTK : Hid (Lfc.flat (fs.take (k + 1)) = Lfc.flat (fs.take k) ++ [fs[k].l, fs[k].r]) := Lib.hid (by rw [List.take_succ_eq_append_getElem hlt2, Lfc.flat_app])
   obtain ⟨b, oo, rfl, hb, hqb, kk, nm, pp, ls, B, c, kk', nm', pp', rs, B', c', f1, f2, ⟨d0, d1, d2, d3⟩, d4, ⟨d5, d6, d7, d8⟩, v1, v2⟩ := HFS.out.at_ hlt2
   have HV1 := Lib.hid (v1.keep (q' := fun b => b < w2.heap.size) (fun _ _ _ => rfl) (Nat.le_refl _) (fun b _ hb => hb.2))
   have HV2 := Lib.hid (v2.keep (q' := fun b => b < w2.heap.size) (fun _ _ _ => rfl) (Nat.le_refl _) (fun b _ hb => hb.2))
   have cc : ∀ j v, w2.cell? ⟨b, j, none⟩ = some v → wr.cell? ⟨b, j, none⟩ = some v := fun j v h => (hbw.cell (p := ⟨b, j, none⟩) hb).trans h
   obtain ⟨rr, hrr⟩ : ∃ rr, fs[k].rel = rr := ⟨_, rfl⟩
   rw [hrr] at d4
   have g0 := cc _ _ d0
   have g1 := cc _ _ d1
   have g2 := cc _ _ d2
   have g3 := cc _ _ d3
   have g4 := cc _ _ d4
   have g5 := cc _ _ d5
   have g6 := cc _ _ d6
   have g7 := cc _ _ d7
   have g8 := cc _ _ d8
   have hi0 : (0 : Int) ≤ (k : Int) := Int.natCast_nonneg _
   have hi1 : (k : Int) < (nf : Int) := by omega
   obtain ⟨wx, hwx⟩ : ∃ wx, wr.alloc (.cells #[.int .i64 kk, S nm, .int .i64 pp, .slice B (List.length ls) c, .int .i64 rr, .int .i64 kk', S nm', .int .i64 pp', .slice B' (List.length rs) c'] 70) = wx := ⟨_, rfl⟩
   have bx : Below wr.heap.size wr wx := by rw [← hwx]; exact (Below.refl _ _).alloc (Nat.le_refl _) _
   have qx : wx.heap[wr.heap.size]? = some (.cells #[.int .i64 kk, S nm, .int .i64 pp, .slice B (List.length ls) c, .int .i64 rr, .int .i64 kk', S nm', .int .i64 pp', .slice B' (List.length rs) c'] 70 (0, 0)) := by rw [← hwx]; exact heap_alloc_new _ _
   have x0 := (Lib.cell_of_heap qx 0 : wx.cell? ⟨wr.heap.size, 0, none⟩ = some (.int .i64 kk))
   have x1 := (Lib.cell_of_heap qx 1 : wx.cell? ⟨wr.heap.size, 1, none⟩ = some (S nm))
   have x2 := (Lib.cell_of_heap qx 2 : wx.cell? ⟨wr.heap.size, 2, none⟩ = some (.int .i64 pp))
   have x3 := (Lib.cell_of_heap qx 3 : wx.cell? ⟨wr.heap.size, 3, none⟩ = some (.slice B (List.length ls) c))
   have x5 := (Lib.cell_of_heap qx 5 : wx.cell? ⟨wr.heap.size, 5, none⟩ = some (.int .i64 kk'))
   have x6 := (Lib.cell_of_heap qx 6 : wx.cell? ⟨wr.heap.size, 6, none⟩ = some (S nm'))
   have x7 := (Lib.cell_of_heap qx 7 : wx.cell? ⟨wr.heap.size, 7, none⟩ = some (.int .i64 pp'))
   have x8 := (Lib.cell_of_heap qx 8 : wx.cell? ⟨wr.heap.size, 8, none⟩ = some (.slice B' (List.length rs) c'))
   have HWX := Lib.hid hwx
   have HBX := Lib.hid bx
   have HROW := Lib.hid hrow
   have HBW := Lib.hid hbw
   have HOWN := Lib.hid hown
   have HFL := Lib.hid hfl2
   have HOW2 : Hid (wx.ownsRow w2.heap.size 51 4 u13 (2 * k) xs) := Lib.hid (by rw [← hfl2]; exact ownsRow_keepC hown (fun g hg => bx.block g (hown.lt g hg).2))
   have hlm : 2 * k + 2 ≤ maxLen := by unfold maxLen; omega
   have hl56 : (2 * k + 2) * 56 ≤ 140737488355328 := by omega
   have hbz : w2.heap.size ≤ wx.heap.size := Nat.le_trans hbw.size bx.size
   clear hwx bx qx hown hrow hbw v1 v2 d0 d1 d2 d3 d4 d5 d6 d7 d8 cc f1 f2 hrr HI hfl2
   go_upto_region 5 with fail
   rw [HWX.out]
   clear HWX g0 g1 g2 g3 g4 g5 g6 g7 g8
   go_wp2_with (at_builtin; refine wpList_append_own_at _ rfl _ _ 27 rfl w2.heap.size 51 i0 (.agg #[.int .i64 0, S [], .int .i64 0, .slice none 0 0]) 4 56 Tryz.underlying27 hi hz0 hz1 hz2 rfl (by decide) _ _ _ rfl (HOW2.out.alloc _) ⟨wx.heap.size, 0, none⟩ 2 2 [.int .i64 kk, S nm, .int .i64 pp, .slice B (List.length ls) c, .int .i64 kk', S nm', .int .i64 pp', .slice B' (List.length rs) c'] rfl rfl (fun jj v hj => ocells_new wx _ rfl [.int .i64 kk, S nm, .int .i64 pp, .slice B (List.length ls) c, .int .i64 kk', S nm', .int .i64 pp', .slice B' (List.length rs) c'] 51 jj v hj) oneCell8 hlm hl56 (oalloc_le hbz) ?_)
   intro v' w10 hown10 hg10 _ hloc10
   have HN : Hid (GaI q w2 (Lfc.flat (fs.take (k + 1))) v' w10) := Lib.hid (by
    rw [HTK.out]
    exact GaI.step HOWN.out HROW.out HBW.out HBX.out HV1.out HV2.out (by rw [HFL.out]; exact hown10) hg10)
   clear hown10 hg10 hloc10
   go_wp2_with fail
   go_roundw
   case rel => exact ⟨k + 1, by omega, by go_num, HN⟩
   case measure => simp [intOf]; omega
  ·obtain rfl : k = nf := by omega
   obtain ⟨xs0, hown0, hrow0, hb0⟩ := HI.out
   have htk : fs.take k = fs := by rw [← HNF.out]; exact List.take_length
   rw [htk] at hown0 hrow0
   obtain ⟨n0, hn0⟩ : ∃ n0, (Lfc.flat fs).length = n0 := ⟨_, rfl⟩
   have hn02 : n0 = 2 * k := by rw [← hn0, Lfc.flat_len, HNF.out]
   rw [hn0] at hown0
   obtain ⟨A0, c0, rfl, hc0⟩ := own_form hown0
   obtain ⟨wr0, hwr0⟩ : ∃ wr0, wr0 = wr := ⟨_, rfl⟩
   subst hwr0
   obtain ⟨w3, hw3⟩ : ∃ w3, wr0.alloc (.cells #[.slice A0 n0 c0, .slice L n cl, .slice R m cr] 27) = w3 := ⟨_, rfl⟩
   have b3 : Below wr0.heap.size wr0 w3 := by rw [← hw3]; exact (Below.refl _ _).alloc (Nat.le_refl _) _
   have q3 : w3.heap[wr0.heap.size]? = some (.cells #[.slice A0 n0 c0, .slice L n cl, .slice R m cr] 27 (0, 0)) := by rw [← hw3]; exact heap_alloc_new _ _
   have e3 := lt_of_block q3
   have b23 : Below w2.heap.size w2 w3 := hb0.trans (b3.mono hb0.size)
   have b03 : Below w.heap.size w w3 := B02.out.trans (b23.mono s02)
   have s23 := b23.size
   have Q1 := Lib.hid ((b23.block _ (by omega)).trans Q12.out)
   have Q2 := Lib.hid ((b23.block _ e2).trans Q22.out)
   have s03 : w.heap.size ≤ w3.heap.size := by omega
   obtain ⟨⟨hx1, hr1, hc1, ho1⟩, hx2, hr2, hc2, ho2⟩ := HX.out
   have hPO : PartsO w3 wr0.heap.size 0 [⟨A0, n0, c0, xs0⟩, ⟨L, n, cl, xs1⟩, ⟨R, m, cr, xs2⟩] := by
    intro k hk
    have hk3 : k < 3 := hk
    have hk' : k = 0 ∨ k = 1 ∨ k = 2 := by omega
    rcases hk' with rfl | rfl | rfl
    ·refine ⟨Lib.cell_of_heap q3 0, hown0.1, fun e => ?_, fun a ha j u hj => ?_, hrow0.cell1⟩
     ·rcases hown0.2 with ⟨h1, h2⟩ | ⟨g, cap, cur, h1, _⟩
      ·injection h1 with _ e2 e3
       exact ⟨h2, e3⟩
      ·injection h1 with e1 _ _
       rw [e1] at e
       cases e
     ·rcases hown0.2 with ⟨h1, h2⟩ | ⟨g, cap, cur, h1, hbg, hg, _⟩
      ·injection h1 with e1 _ _
       rw [e1] at ha
       cases ha
      ·injection h1 with e1 _ _
       rw [e1] at ha
       cases ha
       exact (b3.cell (World.block_lt_of_cell? wr0 _ (hown0.cells (g := g) (by rw [e1]; rfl) j u hj))).trans (hown0.cells (g := g) (by rw [e1]; rfl) j u hj)
    ·exact ⟨Lib.cell_of_heap q3 1, hx1, HLR.out.1, fun a ha j u hj => (b03.cell (World.block_lt_of_cell? w _ (hc1 a ha j u hj))).trans (hc1 a ha j u hj), ho1⟩
    ·exact ⟨Lib.cell_of_heap q3 2, hx2, HLR.out.2, fun a ha j u hj => (b03.cell (World.block_lt_of_cell? w _ (hc2 a ha j u hj))).trans (hc2 a ha j u hj), ho2⟩
   have CC := Lib.hid (concatT_any wr0.heap.size 0 3 _ w3 (by simp) (by simp [partsN]; omega) hPO)
   have HRW : Hid (∀ w4 v, w4.ownsRow w3.heap.size 51 4 v (partsN [⟨A0, n0, c0, xs0⟩, ⟨L, n, cl, xs1⟩, ⟨R, m, cr, xs2⟩]) (partsX [⟨A0, n0, c0, xs0⟩, ⟨L, n, cl, xs1⟩, ⟨R, m, cr, xs2⟩]) → Below w3.heap.size w3 w4 → ∃ A c, v = .slice A all.length c ∧ TreesAt w4 A all) := Lib.hid (fun w4 v ho hb => by
    have hb2 := b23.trans (hb.mono s23)
    have hb0' := b03.trans (hb.mono s03)
    refine treesAt_own (q := fun b => b < w2.heap.size) (xs := (xs0 ++ xs1) ++ xs2) (by simpa [partsX] using ho) ?_
    rw [← HALL.out]
    refine RowP.append (RowP.keep (fun b hb1 hb2 => hb0'.block b hb2) hb0'.size (fun b h _ => by omega) hr2) (RowP.append (RowP.keep (fun b hb1 hb2 => hb0'.block b hb2) hb0'.size (fun b h _ => by omega) hr1) (RowP.keep (fun b hb1 _ => ?_) (by have := hb.size; have := b3.size; omega) (fun _ _ h => h) hrow0))
    have hb1 : b < w2.heap.size := hb1
    exact (hb2.block b hb1).trans (hb0.block b hb1).symm)
   obtain ⟨h_o, h_p, h_s, hos, hps⟩ := HNM.out
   have CV1 : Hid (∀ W, Below w3.heap.size w3 W → Calls Tryz.prog 33 #[.agg #[.int .i64 k1, .int .i64 a1, .slice A1 l1 c1], .int .i64 (n : Int)] W fun e w' => e = .returned (.int .i64 zo) ∧ Below W.heap.size W w') := Lib.hid (fun W hW => by
    have := oValid_any o _ (n : Int) W hos (by omega) (by omega) (HVO.out.below (b03.trans (hW.mono s03)))
    rwa [h_o] at this)
   have CV2 : Hid (∀ W, Below w3.heap.size w3 W → Calls Tryz.prog 33 #[.agg #[.int .i64 k2, .int .i64 a2, .slice A2 l2 c2], .int .i64 (m : Int)] W fun e w' => e = .returned (.int .i64 zp) ∧ Below W.heap.size W w') := Lib.hid (fun W hW => by
    have := oValid_any p _ (m : Int) W hps (by omega) (by omega) (HVP.out.below (b03.trans (hW.mono s03)))
    rwa [h_p] at this)
   have CS : Hid (∀ W, Below w3.heap.size w3 W → Calls Tryz.prog 34 #[.agg #[.int .i64 k1, .int .i64 a1, .slice A1 l1 c1], .agg #[.int .i64 k2, .int .i64 a2, .slice A2 l2 c2]] W fun e w' => e = .returned (.bool sh) ∧ Below W.heap.size W w') := Lib.hid (fun W hW => by
    have := oShape_upto _ hos o p _ _ W (Nat.le_refl _) (HVO.out.below (b03.trans (hW.mono s03))) (HVP.out.below (b03.trans (hW.mono s03)))
    rwa [h_s] at this)
   have CFF : Hid (∀ W, Below w3.heap.size w3 W → Calls Tryz.prog 62 #[.slice F k f0, .func (.func 63) #[] #[]] W fun e w' => e = .returned (.bool false) ∧ Below W.heap.size W w') := Lib.hid (fun W hW => by
    have := conFact_any q fs F f0 W (by rw [HNF.out]; omega) (HF2.out.below (b23.trans (hW.mono s23))) HRL.out
    rwa [HNF.out] at this)
   have B03 := Lib.hid b03
   have hl2 : all.length ≤ 3000 := by rw [HLEN.out]; omega
   obtain ⟨N, hN⟩ : ∃ N, all.length = N := ⟨_, rfl⟩
   have HN := Lib.hid hN
   rw [hN] at hl2
   clear hN h_o h_p h_s hos hps hx1 hr1 hc1 ho1 hx2 hr2 hc2 ho2 hPO b03 b23 b3 q3 hb0 hrow0 hown0 hn02 hn0 htk HI hc0
   obtain ⟨nf, hnf⟩ : ∃ nf, nf = k := ⟨_, rfl⟩
   subst hnf
   go_wp2_with fail
   refine CC.out.mono ?_
   rintro e w4 ⟨⟨v4, rfl, hown⟩, b4⟩
   obtain ⟨A4, c4, rfl, hT4⟩ := HRW.out _ _ hown b4
   rw [HN.out]
   have HT4 := Lib.hid hT4
   have B4 := Lib.hid b4
   have I0 : Hid (Below w4.heap.size w4 w4) := Lib.hid (Below.refl _ _)
   clear hown hT4 b4 CC HRW hw3
   go_wp2_with fail
   go_loopw [44] (fun i wr => ∃ k : Nat, k ≤ N ∧ i = .int .i64 (k : Int) ∧ Hid (Lfc.firstE all = Lfc.firstE (all.drop k)) ∧ Hid (Below w4.heap.size w4 wr)) (fun i _ => N - (intOf i).toNat)
   case atStart => exact ⟨0, by omega, rfl, Lib.hid rfl, I0⟩
   case round =>
    obtain ⟨k, hk, rfl, HF, HB⟩ := hrel
    by_cases hlt : k < N
    ·have hlt2 : k < all.length := by rw [HN.out]; exact hlt
     obtain ⟨b, oo, kk, nn, pp, us', B', cc, rfl, hb, ht, d0, d1, d2, d3, hcu, hB, hT⟩ := HT4.out.at_ hlt2
     have hbw := HB.out
     have f0 := (hbw.cell (p := ⟨b, oo + k * 4, none⟩) hb).trans d0
     have f1 := (hbw.cell (p := ⟨b, oo + k * 4 + 1, none⟩) hb).trans d1
     have f2 := (hbw.cell (p := ⟨b, oo + k * 4 + 2, none⟩) hb).trans d2
     have f3 := (hbw.cell (p := ⟨b, oo + k * 4 + 3, none⟩) hb).trans d3
     have hi0 : (0 : Int) ≤ (k : Int) := Int.natCast_nonneg _
     have hi1 : (k : Int) < (N : Int) := by omega
     obtain ⟨wx, hwx⟩ : ∃ wx, wr.alloc (.cells #[.int .i64 kk, S nn, .int .i64 pp, .slice B' us'.length cc] 51) = wx := ⟨_, rfl⟩
     have bx : Below wr.heap.size wr wx := by rw [← hwx]; exact (Below.refl _ _).alloc (Nat.le_refl _) _
     have qx : wx.heap[wr.heap.size]? = some (.cells #[.int .i64 kk, S nn, .int .i64 pp, .slice B' us'.length cc] 51 (0, 0)) := by rw [← hwx]; exact heap_alloc_new _ _
     obtain ⟨y0, y1, y2, y3⟩ := cells4t qx
     have CW := Lib.hid (tWf_any all[k] _ wx (by have := HST.out k hlt2; omega) (hT.below (hbw.trans (bx.mono hbw.size))))
     have HB2 := Lib.hid (hbw.trans (bx.mono hbw.size))
     have HFD := Lib.hid (HF.out.trans (Lfc.firstE_drop hlt2))
     have HWX := Lib.hid hwx
     obtain ⟨z, hz⟩ : ∃ z, all[k].twf = z := ⟨_, rfl⟩
     rw [hz] at CW HFD
     clear hz qx bx hwx hT hB ht d0 d1 d2 d3 hbw hlt2
     go_upto_region 11 with fail
     rw [HWX.out]
     clear HWX f0 f1 f2 f3
     go_wp2_with fail
     refine CW.out.mono ?_
     rintro e w5 ⟨rfl, b5⟩
     have HB5 := Lib.hid (HB2.out.trans (b5.mono HB2.out.size))
     clear b5 CW y0 y1 y2 y3
     by_cases hz0 : z = 0
     ·have HFE : Hid (Lfc.firstE all = Lfc.firstE (all.drop (k + 1))) := Lib.hid (by rw [HFD.out, if_pos hz0])
      clear HFD
      subst hz0
      go_wp2_with fail
      go_roundw
      case rel => exact ⟨k + 1, by omega, by go_num, HFE, HB5⟩
      case measure => simp [intOf]; omega
     ·have HFE : Hid (Lfc.firstE all = z) := Lib.hid (by rw [HFD.out, if_neg hz0])
      have hz1 : (z == 0) = false := by simpa using hz0
      have hz2 : (z != 0) = true := by simpa using hz0
      have hz3 : decide (z = 0) = false := by simpa using hz0
      have HZ : Hid (Ending.returned (.int .i64 z) = .returned (.int .i64 res) ∧ Below w.heap.size w w5) := Lib.hid ⟨by rw [HRES.out.1 (by rw [HFE.out]; exact hz0), HFE.out], B03.out.trans ((B4.out.trans (HB5.out.mono B4.out.size)).mono s03)⟩
      clear HFD hz0
      go_wp2_with fail
      go_ret
      exact HZ.out
    ·obtain rfl : k = N := by omega
     have HFE : Hid (Lfc.firstE all = 0) := Lib.hid (by rw [HF.out, ← HN.out, List.drop_length, Lfc.firstE])
     clear HF
     have I0 : Hid (Below w4.heap.size w4 wr) := HB
     clear HB
     obtain ⟨wq2, hwq2⟩ : ∃ wq2, wq2 = wr := ⟨_, rfl⟩
     subst hwq2
     go_wp2_with fail
     go_loopw [56] (fun i wr => ∃ j : Nat, j ≤ k ∧ i = .int .i64 (j : Int) ∧ Hid (Lfc.allO all = Lfc.allO (all.drop j)) ∧ Hid (Below w4.heap.size w4 wr)) (fun i _ => k - (intOf i).toNat)
     case atStart => exact ⟨0, by omega, rfl, Lib.hid rfl, I0⟩
     case round =>
      clear I0
      obtain ⟨j, hj, rfl, HF, HB⟩ := hrel
      by_cases hlt : j < k
      ·have hlt2 : j < all.length := by rw [HN.out]; exact hlt
       obtain ⟨b, oo, kk, nn, pp, us', B', cc, rfl, hb, ht, d0, d1, d2, d3, hcu, hB, hT⟩ := HT4.out.at_ hlt2
       have hbw := HB.out
       have f0 := (hbw.cell (p := ⟨b, oo + j * 4, none⟩) hb).trans d0
       have f1 := (hbw.cell (p := ⟨b, oo + j * 4 + 1, none⟩) hb).trans d1
       have f2 := (hbw.cell (p := ⟨b, oo + j * 4 + 2, none⟩) hb).trans d2
       have f3 := (hbw.cell (p := ⟨b, oo + j * 4 + 3, none⟩) hb).trans d3
       have hi0 : (0 : Int) ≤ (j : Int) := Int.natCast_nonneg _
       have hi1 : (j : Int) < (k : Int) := by omega
       obtain ⟨wx, hwx⟩ : ∃ wx, wr.alloc (.cells #[.int .i64 kk, S nn, .int .i64 pp, .slice B' us'.length cc] 51) = wx := ⟨_, rfl⟩
       have bx : Below wr.heap.size wr wx := by rw [← hwx]; exact (Below.refl _ _).alloc (Nat.le_refl _) _
       have qx : wx.heap[wr.heap.size]? = some (.cells #[.int .i64 kk, S nn, .int .i64 pp, .slice B' us'.length cc] 51 (0, 0)) := by rw [← hwx]; exact heap_alloc_new _ _
       obtain ⟨y0, y1, y2, y3⟩ := cells4t qx
       have CW := Lib.hid (tIsO_any all[j] _ wx (HST.out j hlt2) (hT.below (hbw.trans (bx.mono hbw.size))))
       have HB2 := Lib.hid (hbw.trans (bx.mono hbw.size))
       have HFD := Lib.hid (HF.out.trans (Lfc.allO_drop hlt2))
       have HWX := Lib.hid hwx
       obtain ⟨z, hz⟩ : ∃ z, all[j].isO = z := ⟨_, rfl⟩
       rw [hz] at CW HFD
       clear hz qx bx hwx hT hB ht d0 d1 d2 d3 hbw hlt2
       go_upto_region 18 with fail
       rw [HWX.out]
       clear HWX f0 f1 f2 f3
       go_wp2_with fail
       refine CW.out.mono ?_
       rintro e w5 ⟨rfl, b5⟩
       have HB5 := Lib.hid (HB2.out.trans (b5.mono HB2.out.size))
       clear b5 CW y0 y1 y2 y3
       cases z
       ·have HZ : Hid (Ending.returned (.int .i64 32) = .returned (.int .i64 res) ∧ Below w.heap.size w w5) := Lib.hid ⟨by rw [HRES.out.2.1 HFE.out (by rw [HFD.out]; rfl)], B03.out.trans ((B4.out.trans (HB5.out.mono B4.out.size)).mono s03)⟩
        clear HFD
        go_wp2_with fail
        go_ret
        exact HZ.out
       ·have HFE2 : Hid (Lfc.allO all = Lfc.allO (all.drop (j + 1))) := Lib.hid (by rw [HFD.out]; rfl)
        clear HFD
        go_wp2_with fail
        go_roundw
        case rel => exact ⟨j + 1, by omega, by go_num, HFE2, HB5⟩
        case measure => simp [intOf]; omega
      ·obtain rfl : j = k := by omega
       have HAO : Hid (Lfc.allO all = true) := Lib.hid (by rw [HF.out, ← HN.out, List.drop_length, Lfc.allO])
       have HRZ := Lib.hid (HRES.out.2.2 HFE.out HAO.out)
       have b3r := B4.out.trans (HB.out.mono B4.out.size)
       have HB0 := Lib.hid b3r
       obtain ⟨y0, y1, y2⟩ := cells3o ((b3r.block _ (by omega)).trans Q1.out)
       have C1 := Lib.hid (CV1.out _ b3r)
       clear HF HB HAO b3r
       go_wp2_with fail
       refine C1.out.mono ?_
       rintro e w6 ⟨rfl, b6⟩
       have b36 := HB0.out.trans (b6.mono HB0.out.size)
       have HB6 := Lib.hid b36
       by_cases hzo : zo = 0
       ·obtain ⟨z0, z1, z2⟩ := cells3o ((b36.block _ (by omega)).trans Q2.out)
        have C2 := Lib.hid (CV2.out _ b36)
        have HRP := Lib.hid (HRZ.out.2 hzo)
        clear b36 b6 C1 y0 y1 y2 HRZ
        subst hzo
        go_wp2_with fail
        refine C2.out.mono ?_
        rintro e w7 ⟨rfl, b7⟩
        have b37 := HB6.out.trans (b7.mono HB6.out.size)
        have HB7 := Lib.hid b37
        by_cases hzp : zp = 0
        ·obtain ⟨y0, y1, y2⟩ := cells3o ((b37.block _ (by omega)).trans Q1.out)
         clear z0 z1 z2
         obtain ⟨z0, z1, z2⟩ := cells3o ((b37.block _ (by omega)).trans Q2.out)
         have C3 := Lib.hid (CS.out _ b37)
         have HRS := Lib.hid (HRP.out.2 hzp)
         clear b37 b7 C2 HRP
         subst hzp
         go_wp2_with fail
         refine C3.out.mono ?_
         rintro e w8 ⟨rfl, b8⟩
         have b38 := HB7.out.trans (b8.mono HB7.out.size)
         have HB8 := Lib.hid b38
         clear b8 C3 y0 y1 y2 z0 z1 z2
         cases sh with
         | false =>
          have HZ : Hid (Ending.returned (.int .i64 92) = .returned (.int .i64 res) ∧ Below w.heap.size w w8) := Lib.hid ⟨by rw [HRS.out.1 rfl], B03.out.trans (HB8.out.mono s03)⟩
          clear HRS b38
          go_wp2_with fail
          go_ret
          exact HZ.out
         | true =>
          have HRT := Lib.hid (HRS.out.2 rfl)
          have CF := Lib.hid (CFF.out _ b38)
          clear HRS b38
          go_wp2_with fail
          refine (CR.out _).mono ?_
          rintro e w9 ⟨rfl, rfl⟩
          go_wp2_with fail
          refine CF.out.mono ?_
          rintro e w10 ⟨rfl, b10⟩
          have HZ : Hid (Ending.returned (.int .i64 0) = .returned (.int .i64 res) ∧ Below w.heap.size w w10) := Lib.hid ⟨by rw [HRT.out], B03.out.trans ((HB8.out.trans (b10.mono HB8.out.size)).mono s03)⟩
          clear b10 CF
          go_wp2_with fail
          go_ret
          exact HZ.out
        ·have hz1 : (zp == 0) = false := by simpa using hzp
         have hz2 : (zp != 0) = true := by simpa using hzp
         have hz3 : decide (zp = 0) = false := by simpa using hzp
         have HZ : Hid (Ending.returned (.int .i64 zp) = .returned (.int .i64 res) ∧ Below w.heap.size w w7) := Lib.hid ⟨by rw [HRP.out.1 hzp], B03.out.trans (HB7.out.mono s03)⟩
         clear b37 b7 C2 HRP hzp z0 z1 z2
         go_wp2_with fail
         go_ret
         exact HZ.out
       ·have hz1 : (zo == 0) = false := by simpa using hzo
        have hz2 : (zo != 0) = true := by simpa using hzo
        have hz3 : decide (zo = 0) = false := by simpa using hzo
        have HZ : Hid (Ending.returned (.int .i64 zo) = .returned (.int .i64 res) ∧ Below w.heap.size w w6) := Lib.hid ⟨by rw [HRZ.out.1 hzo], B03.out.trans (HB6.out.mono s03)⟩
        clear b36 b6 C1 HRZ hzo y0 y1 y2
        go_wp2_with fail
        go_ret
        exact HZ.out
end Go.Proofs.YtadjpadieljjlaaGreat
