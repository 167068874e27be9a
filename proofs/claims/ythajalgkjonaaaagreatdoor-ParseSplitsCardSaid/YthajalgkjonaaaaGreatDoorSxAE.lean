/- Parts of the proof that no input makes the law false: PaTx, RegTk, Oth, StepApp, StepStr, PaTxM, Names, RawSize, RawSame. -/
import Derived.OrdersHeld
import Derived.WalkKit
import Derived.Maps.AppendAt
import Derived.Deep.RegionLaw
import Derived.Lib.AppendStr
import Derived.Deep.RegionHeld
import Derived.Deep.RegionHeld3
import Derived.Deep.CutBlock
import Derived.Deep.DeepCutAuto
import Derived.Test.YthajalgkjonaaaaGreatDoorSxAA
import Derived.Test.YthajalgkjonaaaaGreatDoorSxAB
import Derived.Test.YthajalgkjonaaaaGreatDoorSxAD
set_option linter.unusedVariables false
set_option linter.unusedSimpArgs false
namespace Lfc
def pcs : List (List UInt8) := [[97], [98], [78], [58], [46], [45, 62], [60, 45], [61], [116, 121, 112, 101], [95], [40], [41], [123, 120, 58, 97, 125], [91, 120, 93], [91, 121, 58, 98, 93], [123], [125], [91], [93], [43], [42], [64, 97], [37, 105, 110, 102, 105, 120, 32, 108, 101, 102, 116, 32, 53, 32, 43, 46], [37, 105, 110, 102, 105, 120, 32, 114, 105, 103, 104, 116, 32, 53, 32, 42, 46], [37, 112, 114, 101, 102, 105, 120, 32, 57, 32, 126, 46], [126], [37, 109, 111, 100, 101], [37, 119, 111, 114, 108, 100, 115], [37, 98, 108, 111, 99, 107], [115, 111, 109, 101], [98, 108, 111, 99, 107], [124], [37, 116, 111, 116, 97, 108], [37, 113, 117, 101, 114, 121], [37, 99, 111, 118, 101, 114, 115], [37, 114, 101, 100, 117, 99, 101, 115], [37, 117, 110, 105, 113, 117, 101], [37, 115, 116, 114, 105, 99, 116], [37, 116, 101, 114, 109, 105, 110, 97, 116, 101, 115], [60], [60, 61], [48], [49], [49, 50], [48, 54, 53], [54, 53], [37, 102, 111, 111], [45], [37, 112, 111, 115, 116, 102, 105, 120, 32, 49, 48, 48, 32, 33, 46], [37, 123, 32, 99, 32, 125, 37], [97, 32, 58, 32, 98, 46], [99, 32, 61, 32, 97, 46]]
def sepB (k : Nat) : UInt8 := if k = 0 then 32 else 10
def pcText (k : Nat × Nat) : List UInt8 := pcs.getD k.1 [] ++ [sepB k.2]
def textP (ks : List (Nat × Nat)) : List UInt8 := ks.flatMap pcText
theorem nx_app32 (c : UInt8) (r z : List UInt8) (he : (nx (c :: r)).err = 0) (hlast : (nx (c :: r)).len < r.length + 1 ∨ (nx (c :: r)).kind ≠ 0 ∨ r.head? = some 123) : nx (c :: r ++ 32 :: z) = nx (c :: r) := by
 have hb : nameB 32 = false := by decide
 have hbl : letterB 32 = false := by decide
 have h11 : (nx (c :: r)).err ≠ 11 := by rw [he]; decide
 rw [List.cons_append]
 simp only [nx] at he h11 hlast ⊢
 split
 ·rfl
 ·rename_i hbc
  rw [if_neg hbc] at h11 hlast
  split
  ·rename_i h37
   rw [if_pos h37] at h11 hlast
   match r with
   | [] =>
    simp only [pc] at hlast
    simp at hlast
   | d :: r' =>
    simp only [pc, List.cons_append] at h11 hlast ⊢
    split
    ·rename_i hd
     rw [if_pos hd] at h11
     cases hc : cmt 1 r' with
     | none => rw [hc] at h11; simp at h11
     | some t =>
      rw [cmt_app _ r' (Nat.le_refl _) 1 t (32 :: z) hc]
      simp
      omega
    ·rename_i hd
     rw [if_neg hd] at h11 hlast
     have e1 : runLen letterB (d :: (r' ++ 32 :: z)) = runLen letterB (d :: r') := runLen_more letterB (d :: r') 32 z (.inl hbl)
     have e2 : (d :: (r' ++ 32 :: z)).take (runLen letterB (d :: r')) = (d :: r').take (runLen letterB (d :: r')) := take_runLen letterB (d :: r') (32 :: z)
     rw [e1]
     split
     ·rename_i h0
      rw [if_pos h0] at hlast
      have e3 : runLen notNlB (d :: (r' ++ 32 :: z)) = runLen notNlB (d :: r') := by
       refine runLen_more notNlB (d :: r') 32 z ?_
       rcases hlast with h | h | h
       ·exact .inr (by simp at h ⊢; omega)
       ·simp at h
       ·simp at h
        subst h
        exact absurd (by decide) hd
      rw [e3]
     ·rw [e2]
  ·split
   ·have e1 : runLen nameB (c :: (r ++ 32 :: z)) = runLen nameB (c :: r) := runLen_more nameB (c :: r) 32 z (.inl hb)
    have e2 : (c :: (r ++ 32 :: z)).take (runLen nameB (c :: r)) = (c :: r).take (runLen nameB (c :: r)) := take_runLen nameB (c :: r) (32 :: z)
    rw [e1, e2]
   ·rfl
def calmF : Nat → List UInt8 → Bool
 | 0, l => l.isEmpty
 | _ + 1, [] => true
 | f + 1, c :: r => decide ((nx (c :: r)).err = 0) && (decide ((nx (c :: r)).len < r.length + 1) || decide ((nx (c :: r)).kind ≠ 0) || decide (r.head? = some 123)) && calmF f ((c :: r).drop (nx (c :: r)).len)
theorem sc_join32 (t : List UInt8) : ∀ (f : Nat) (s : List UInt8) (n : Nat), calmF f s = true → (sc (n + s.length + 1) t).2.1 = 0 → (sc n s).2.1 = 0 ∧ sc n (s ++ 32 :: t) = ((sc n s).1 ++ (sc (n + s.length + 1) t).1, (sc (n + s.length + 1) t).2)
 | 0, [], n, _, h0 => by
  refine ⟨rfl, ?_⟩
  rw [List.nil_append, sc_blank _ _ _ (by decide)]
  rfl
 | 0, _ :: _, _, h, _ => by simp [calmF] at h
 | _ + 1, [], n, _, h0 => by
  refine ⟨rfl, ?_⟩
  rw [List.nil_append, sc_blank _ _ _ (by decide)]
  rfl
 | f + 1, c :: r, n, h, h0 => by
  simp only [calmF, Bool.and_eq_true, Bool.or_eq_true, decide_eq_true_eq] at h
  obtain ⟨⟨he, hl⟩, hc⟩ := h
  have hlen := nx_len c r he
  have e : nx (c :: r ++ 32 :: t) = nx (c :: r) := nx_app32 c r t he (hl.elim (fun h => h.elim .inl fun h => .inr (.inl h)) fun h => .inr (.inr h))
  have e' : nx (c :: (r ++ 32 :: t)) = nx (c :: r) := e
  have hn : n + (nx (c :: r)).len + ((c :: r).drop (nx (c :: r)).len).length + 1 = n + (c :: r).length + 1 := by rw [List.length_drop, List.length_cons]; omega
  obtain ⟨i1, i2⟩ := sc_join32 t f ((c :: r).drop (nx (c :: r)).len) (n + (nx (c :: r)).len) hc (by rw [hn]; exact h0)
  have ed : (c :: (r ++ 32 :: t)).drop (nx (c :: r)).len = (c :: r).drop (nx (c :: r)).len ++ 32 :: t := by
   rw [← List.cons_append, List.drop_append_of_le_length (by simp; omega)]
  refine ⟨by rw [sc_ok _ _ _ he, put_snd]; exact i1, ?_⟩
  rw [List.cons_append, sc_ok _ _ _ (by rw [e']; exact he), e', sc_ok _ _ _ he, ed, i2, hn]
  refine Prod.ext ?_ (put_snd _ _ _)
  rw [put_fst]
  case h => exact h0
  rw [put_fst _ _ _ i1]
  simp
def Clean (y : List UInt8) : Prop := (∀ n, (sc n y).2.1 = 0) ∧ ∀ n z, (sc (n + y.length) z).2.1 = 0 → sc n (y ++ z) = ((sc n y).1 ++ (sc (n + y.length) z).1, (sc (n + y.length) z).2)
theorem sc_zero (y : List UInt8) (h : (sc 0 y).2.1 = 0) (n : Nat) : (sc n y).2.1 = 0 := by
 have := sc_shift n y 0
 rw [Nat.zero_add] at this
 rw [this]
 exact h
theorem clean_nil : Clean [] := ⟨fun _ => rfl, fun n z h => by simp [sc_nil]⟩
theorem Clean.app {a b : List UInt8} (ha : Clean a) (hb : Clean b) : Clean (a ++ b) ∧ ∀ n, (sc n (a ++ b)).1 = (sc n a).1 ++ (sc (n + a.length) b).1 := by
 have h1 : ∀ n, sc n (a ++ b) = ((sc n a).1 ++ (sc (n + a.length) b).1, (sc (n + a.length) b).2) := fun n => ha.2 n b (hb.1 _)
 refine ⟨⟨fun n => by rw [h1]; exact hb.1 _, fun n z h => ?_⟩, fun n => by rw [h1]⟩
 have e : n + (a ++ b).length = n + a.length + b.length := by simp; omega
 rw [e] at h ⊢
 have h2 := hb.2 (n + a.length) z h
 rw [List.append_assoc, ha.2 n (b ++ z) (by rw [h2]; exact h), h1, h2]
 simp
theorem clean_sep (x : List UInt8) (k : Nat) (hx : (sc 0 x).2.1 = 0) (hc : calmF x.length x = true) : Clean (x ++ [sepB k]) ∧ ∀ n, (sc n (x ++ [sepB k])).1 = (sc n x).1 := by
 have h10 : ∀ n, (sc n x).2.1 = 0 := sc_zero x hx
 unfold sepB
 split
 ·have J := fun n z (h : (sc (n + x.length + 1) z).2.1 = 0) => sc_join32 z _ x n hc h
  have J0 := fun n => (J n [] rfl).2
  refine ⟨⟨fun n => by rw [J0]; rfl, fun n z h => ?_⟩, fun n => by rw [J0]; simp [sc_nil]⟩
  have e : n + (x ++ [32]).length = n + x.length + 1 := by simp; omega
  rw [e] at h ⊢
  rw [J0, List.append_assoc]
  show sc n (x ++ 32 :: z) = _
  rw [(J n z h).2]
  simp [sc_nil]
 ·have J := fun n z => sc_join x z n (h10 n)
  have J0 := fun n => J n []
  simp only [sc_nil, if_true, List.append_nil] at J0
  refine ⟨⟨fun n => by rw [J0], fun n z h => ?_⟩, fun n => by rw [J0]⟩
  have e : n + (x ++ [10]).length = n + x.length + 1 := by simp; omega
  rw [e] at h ⊢
  rw [J0, List.append_assoc]
  show sc n (x ++ 10 :: z) = _
  rw [J, if_pos h]
theorem pcs_ok : pcs.all (fun x => decide ((sc 0 x).2.1 = 0) && calmF x.length x && decide (x.length ≤ 20) && decide ((sc 0 x).1.countP dotB ≤ 1)) = true := by decide +kernel
theorem pc_ok (i : Nat) : (sc 0 (pcs.getD i [])).2.1 = 0 ∧ calmF (pcs.getD i []).length (pcs.getD i []) = true ∧ (pcs.getD i []).length ≤ 20 ∧ (sc 0 (pcs.getD i [])).1.countP dotB ≤ 1 := by
 rcases Nat.lt_or_ge i pcs.length with h | h
 ·have := List.all_eq_true.1 pcs_ok pcs[i] (List.getElem_mem h)
  rw [List.getD_eq_getElem?_getD, List.getElem?_eq_getElem h]
  simpa [and_assoc] using this
 ·rw [List.getD_eq_getElem?_getD, List.getElem?_eq_none h]
  exact ⟨rfl, rfl, by simp, by simp [sc_nil]⟩
theorem dot_shift (n : Nat) (x : List UInt8) : (sc n x).1.countP dotB = (sc 0 x).1.countP dotB := by
 have := sc_shift n x 0
 rw [Nat.zero_add] at this
 rw [this]
 unfold shift
 rw [List.countP_map]
 rfl
theorem textP_ok : ∀ ks : List (Nat × Nat), Clean (textP ks) ∧ (textP ks).length ≤ 21 * ks.length ∧ ∀ n, (sc n (textP ks)).1.countP dotB ≤ ks.length
 | [] => ⟨clean_nil, by simp [textP], fun n => by simp [textP, sc_nil]⟩
 | k :: r => by
  obtain ⟨h1, h2, h3⟩ := textP_ok r
  obtain ⟨p1, p2, p3, p4⟩ := pc_ok k.1
  obtain ⟨c1, c2⟩ := clean_sep _ k.2 p1 p2
  have e : textP (k :: r) = (pcs.getD k.1 [] ++ [sepB k.2]) ++ textP r := by simp [textP, pcText]
  obtain ⟨d1, d2⟩ := c1.app h1
  rw [e]
  refine ⟨d1, by rw [List.length_append, List.length_append, List.length_cons, List.length_cons]; simp only [List.length_nil]; omega, fun n => ?_⟩
  rw [d2, List.countP_append, c2, dot_shift]
  have := h3 (n + (pcs.getD k.1 [] ++ [sepB k.2]).length)
  simp only [List.length_cons]
  omega
theorem lex_two (ks ms : List (Nat × Nat)) (hk : ks.length ≤ 200) (hm : ms.length ≤ 200) : ∃ T B, lex (textP ks) = (T, 0, (textP ks).length) ∧ lex (textP ms) = (B, 0, (textP ms).length) ∧ lex (textP ks ++ textP ms) = (T ++ B.map (Tok.up (textP ks).length), 0, (textP ms).length + (textP ks).length) ∧ T.countP dotB + B.countP dotB < 512 := by
 obtain ⟨a1, a2, a3⟩ := textP_ok ks
 obtain ⟨b1, b2, b3⟩ := textP_ok ms
 have L : ∀ l : List UInt8, l.length ≤ 20000 → lex l = sc 0 l := fun l h => lex_sc' l (by omega) (Nat.le_trans (brk_len l false) h)
 have E : ∀ l n, (sc n l).2.1 = 0 → (sc n l).2 = (0, n + l.length) := fun l n h => Prod.ext h (sc_end l n h)
 have l1 : (textP ks).length ≤ 4200 := by omega
 have l2 : (textP ms).length ≤ 4200 := by omega
 have l3 : (textP ks ++ textP ms).length ≤ 20000 := by rw [List.length_append]; omega
 refine ⟨(sc 0 (textP ks)).1, (sc 0 (textP ms)).1, ?_, ?_, ?_, ?_⟩
 ·rw [L (textP ks) (by omega)]
  refine Prod.ext rfl ?_
  rw [E _ _ (a1.1 0), Nat.zero_add]
 ·rw [L (textP ms) (by omega)]
  refine Prod.ext rfl ?_
  rw [E _ _ (b1.1 0), Nat.zero_add]
 ·rw [L (textP ks ++ textP ms) l3, a1.2 0 _ (b1.1 _)]
  have hs := sc_shift (textP ks).length (textP ms) 0
  rw [hs]
  refine Prod.ext rfl ?_
  show ((sc 0 (textP ms)).2.1, (sc 0 (textP ms)).2.2 + (textP ks).length) = _
  rw [E _ _ (b1.1 0), Nat.zero_add]
 ·have := a3 0
  have := b3 0
  omega
theorem split_law (ks ms : List (Nat × Nat)) (hk : ks.length ≤ 200) (hm : ms.length ≤ 200) {a : List Itm} {ops : List Op} {k0 : Nat} (h : extendP [] (textP ks) = .ok (a, ops) k0) :
  (∀ c e, extendP ops (textP ms) = .err c e → extendP [] (textP ks ++ textP ms) = .err c (e + (textP ks).length)) ∧
  (∀ b more k, extendP ops (textP ms) = .ok (b, more) k → ∃ c k2, extendP [] (textP ks ++ textP ms) = .ok (c, more) k2 ∧ (a ++ b).map Itm.strip = c.map Itm.strip) := by
 obtain ⟨T, B, h1, h2, h3, h4⟩ := lex_two ks ms hk hm
 have e1 : extendP [] (textP ks) = itemsP T (textP ks).length [] := by unfold extendP; rw [h1]; rfl
 have e2 : ∀ l, extendP l (textP ms) = itemsP B (textP ms).length l := fun l => by unfold extendP; rw [h2]; rfl
 have e3 : extendP [] (textP ks ++ textP ms) = itemsP (T ++ B.map (Tok.up (textP ks).length)) ((textP ms).length + (textP ks).length) [] := by
  unfold extendP
  rw [h3, List.length_append, Nat.add_comm (textP ks).length]
  rfl
 rw [e2, e3]
 rw [e1] at h
 exact items_split T B _ _ h4 h
end Lfc
namespace Go.Proofs.YthajalgkjonaaaaGreatDoor
open Go.RowKit
theorem tk {P : Program} {ops : Array Oper} {Q : Exit → Act → World → Prop} {md : Region.Mode} {S : World → Prop} (i : Nat) {oi : Oper} {v : Value} {fuel : Nat} {listed : Array Bool} {a : Act} {w : World} {T' : Prop} (h : T')
  (hi : ops[i]? = some oi := by rfl) (hs : Region.noSelect ops = true := by kernel_rfl) (hf : Region.free md ops listed i = true := by kernel_rfl) (hr : (Region.ready md ops listed).contains i = true := by kernel_rfl)
  (hy : YieldsIf P ops S oi v a := by exact Or.inl ⟨by rfl, by intro w hSw; (try dsimp only at hSw); go_simp; try with_reducible rfl⟩)
  (hQ : ∀ c a w, Q (.panic c) (a.put oi.dst v) w → Q (.panic c) a w := by exact fun _ _ _ h => h) (hS : S w := by assumption)
  (e : wpAnyH P md ops Q S fuel (listed.setIfInBounds i true) (a.put oi.dst v) w = T' := by (try simp only [Act.put, List.getElem_toArray, List.getElem_cons_zero, List.getElem_cons_succ, List.setIfInBounds_toArray, List.set_cons_zero, List.set_cons_succ]) <;> exact rfl) :
  wpAnyH P md ops Q S (fuel + 1) listed a w := wpAnyH_take hi hs hf hr hQ hy hS (e.mpr h)
theorem nrm {T T' : Prop} (h : T') (e : T = T' := by (try simp only [Act.put, List.getElem_toArray, List.getElem_cons_zero, List.getElem_cons_succ, List.setIfInBounds_toArray, List.set_cons_zero, List.set_cons_succ]) <;> exact rfl) : T := e.mpr h
theorem wpAnyH_mono {P : Program} {ops : Array Oper} {Q : Exit → Act → World → Prop} {md : Region.Mode} {S S' : World → Prop} (hS : ∀ w, S' w → S w) : ∀ (fuel : Nat) (listed : Array Bool) (a : Act) (w : World), wpAnyH P md ops Q S' fuel listed a w → wpAnyH P md ops Q S fuel listed a w
 | 0, _, _, _, h => h
 | fuel + 1, _, _, _, h => ⟨h.1, fun i hi => wpOp_mono (fun a' w' h' => ⟨hS _ h'.1, wpAnyH_mono hS fuel _ a' w' h'.2⟩) (h.2 i hi)⟩
end Go.Proofs.YthajalgkjonaaaaGreatDoor
namespace Go.Proofs.YthajalgkjonaaaaGreatDoor
open Go.RowKit
abbrev Oth (T : Nat) (w w' : World) : Prop := w.grownBy w' (some T)
theorem Oth.refl (T : Nat) (w : World) : Oth T w w := ⟨rfl, rfl, rfl, Nat.le_refl _, fun _ _ _ => rfl⟩
theorem Oth.trans {T : Nat} {w w1 w2 : World} (h : Oth T w w1) (h' : Oth T w1 w2) : Oth T w w2 :=
 ⟨h'.os.trans h.os, h'.tape.trans h.tape, h'.output.trans h.output, Nat.le_trans h.size h'.size, fun k hk hn => (h'.block k (Nat.lt_of_lt_of_le hk h.size) hn).trans (h.block k hk hn)⟩
theorem Oth.of_below {T : Nat} {w w' : World} (h : Below w.heap.size w w') : Oth T w w' := ⟨h.os, h.tape, h.output, h.size, fun k hk _ => h.block k hk⟩
theorem Oth.of_new {T : Nat} {w w1 w2 : World} (h : Oth T w w1) (h' : Below w.heap.size w1 w2) : Oth T w w2 :=
 ⟨h'.os.trans h.os, h'.tape.trans h.tape, h'.output.trans h.output, Nat.le_trans h.size h'.size, fun k hk hn => (h'.block k hk).trans (h.block k hk hn)⟩
theorem Oth.set {T j : Nat} (w : World) (v : Value) : Oth T w (w.setCell ⟨T, j, none⟩ v) :=
 ⟨rfl, rfl, rfl, by simp [World.setCell], fun k _ hk => Below.heap_setCell _ _ _ _ (fun e => hk (by simp [e]))⟩
theorem Oth.drew {T : Nat} {w w' : World} (h : Oth T w w') : Oth T w w'.drew := ⟨h.os, h.tape, h.output, h.size, h.block⟩
theorem Oth.cell {T : Nat} {w w' : World} (h : Oth T w w') {p : Addr} (hp : p.block < w.heap.size) (hn : p.block ≠ T) : w'.cell? p = w.cell? p :=
 World.cell?_of_block (h.block _ hp (fun e => hn (Option.some.inj e)))
theorem Oth.heap {T : Nat} {w w' : World} (h : Oth T w w') {k : Nat} {o : Obj} (hk : w.heap[k]? = some o) (hn : k ≠ T) : w'.heap[k]? = some o :=
 (h.block k (lt_of_block hk) (fun e => hn (Option.some.inj e))).trans hk
theorem Oth.below {T B : Nat} {w w1 w2 : World} (h : Below B w w1) (h' : Oth T w1 w2) (hT : B ≤ T) (hB : B ≤ w1.heap.size) : Below B w w2 :=
 ⟨h'.os.trans h.os, h'.tape.trans h.tape, h'.output.trans h.output, Nat.le_trans h.size h'.size, fun k hk => (h'.block k (by omega) (fun e => by have := Option.some.inj e; omega)).trans (h.block k hk)⟩
end Go.Proofs.YthajalgkjonaaaaGreatDoor
namespace Go.Proofs.YthajalgkjonaaaaGreatDoor
open Go.RowKit
section
variable {P : Program} (w : World)
theorem step_append_own_at {ops : Array Oper} {o : Oper} {a : Act} {K : Act → World → Prop} {Q : Exit → Act → World → Prop} {E : Prop} (hgd : o.guard = none) (s x : Operand) (t : TypeId)
  (ho : o.op = .call { callee := .builtin .append, args := #[s, x], argTypes := #[t, t] })
  (base : Nat) (e : TypeId) (i : TypeInfo) (z : Value) (size bytes : Nat) (ht : P.underlying t = some (.slice e)) (hi : P.info? e = some i) (hz : i.zero = some z)
  (hsize : i.size = size) (hby : i.bytes = bytes) (hzs : z.cells.size = size) (hsz : 0 < size)
  (v : Value) (n : Nat) (xs : List Value) (hs : a.eval s = v) (hown : w.ownsRow base e size v n xs)
  (ad : Addr) (m c : Nat) (news : List Value) (hx : a.eval x = .slice (some ad) m c) (hl : news.length = m * size) (hnews : ∀ j u, news[j]? = some u → w.cell? (ad.add j) = some u) (h1 : ∀ u ∈ news, u.oneCell' = true)
  (h63 : n + m ≤ maxLen) (hbytes : (n + m) * bytes ≤ 140737488355328) (hbase : base ≤ w.heap.size)
  (h : ∀ v' w', w'.ownsRow base e size v' (n + m) (xs ++ news) → w.grownBy w' v.ownBlock → (v'.ownBlock = v.ownBlock ∨ v'.ownBlock = some w.heap.size) → K (a.put o.dst v') w') :
  if Region.wanted o (yielded ops a.tmps) = true then Oper.wp P o a w K Q else E := by
 have hw : Region.wanted o (yielded ops a.tmps) = true := by simp [Region.wanted, hgd]
 rw [if_pos hw]
 obtain ⟨v', w', hr, h2, h3, h4, h5⟩ := run_append_own_at (P := P) w base t o.type e i z size bytes ht hi hz hsize hby hzs hsz v n xs hown ad m c news hl hnews h1 h63 hbytes hbase
 unfold Oper.wp execOp
 simp only [ho, resolve, invoke, builtin, Sem.run_bind, Sem.run_pure, Result.andThen_ok, List.map_toArray, List.map_cons, List.map_nil, hs, hx, hr]
 exact h v' w' h2 h3 h5
end
end Go.Proofs.YthajalgkjonaaaaGreatDoor
namespace Go.Proofs.YthajalgkjonaaaaGreatDoor
open Go.RowKit
section
variable {P : Program} (w : World)
theorem step_append_strP {ops : Array Oper} {o : Oper} {a : Act} {K : Act → World → Prop} {Q : Exit → Act → World → Prop} {E : Prop} (hgd : o.guard = none) (sl x : Operand) (t u : TypeId)
  (ho : o.op = .call { callee := .builtin .append, args := #[sl, x], argTypes := #[t, u] })
  (base : Nat) (e : TypeId) (i : TypeInfo) (ht : P.underlying t = some (.slice e)) (hu : P.underlying u = some .string) (hi : P.info? e = some i) (hz : i.zero = some (.int .u8 0))
  (hsize : i.size = 1) (hby : i.bytes = 1)
  (v : Value) (n : Nat) (xs : List Value) (hs : a.eval sl = v) (hown : w.ownsRow base e 1 v n xs) (s : ByteArray) (hx : a.eval x = .string s)
  (h63 : n + s.size ≤ maxLen) (hbytes : n + s.size ≤ 140737488355328) (hbase : base ≤ w.heap.size)
  (h : ∀ v' w', w'.ownsRow base e 1 v' (n + s.size) (xs ++ Lib.strCells s) → w.grownBy w' v.ownBlock → K (a.put o.dst v') w') :
  if Region.wanted o (yielded ops a.tmps) = true then Oper.wp P o a w K Q else E := by
 have hw : Region.wanted o (yielded ops a.tmps) = true := by simp [Region.wanted, hgd]
 rw [if_pos hw]
 obtain ⟨v', w', hr, h2, h3, _⟩ := Lib.run_append_own_string (P := P) w base t u o.type e i ht hu hi hz hsize hby v n xs hown s h63 hbytes hbase
 unfold Oper.wp execOp
 simp only [ho, resolve, invoke, builtin, Sem.run_bind, Sem.run_pure, Result.andThen_ok, List.map_toArray, List.map_cons, List.map_nil, hs, hx, hr]
 exact h v' w' h2 h3
end
end Go.Proofs.YthajalgkjonaaaaGreatDoor
namespace Go.Proofs.YthajalgkjonaaaaGreatDoor
open Go.RowKit
def Pieces4At (w : World) : Prop :=
 ∃ b o c, w.cell? ⟨1, 0, none⟩ = some (.slice (some ⟨b, o, none⟩) 52 c) ∧ b < w.heap.size ∧ 1 < w.heap.size ∧ ∀ k, k < 52 → w.cell? ⟨b, o + k, none⟩ = some (S (Lfc.pcs.getD k []))
theorem Pieces4At.below {w w' : World} (h : Pieces4At w) (hb : Below w.heap.size w w') : Pieces4At w' := by
 obtain ⟨b, o, c, h1, h2, h3, h4⟩ := h
 exact ⟨b, o, c, (hb.cell (p := ⟨_, 0, none⟩) h3).trans h1, Nat.lt_of_lt_of_le h2 hb.size, Nat.lt_of_lt_of_le h3 hb.size, fun k hk => (hb.cell (p := ⟨b, o + k, none⟩) h2).trans (h4 k hk)⟩
def ky (x : Int) : Nat × Nat := (cutI x 52, cutI (IntKind.i64.wrap (x.tdiv 64)) 2)
set_option maxRecDepth 100000 in
set_option maxHeartbeats 8000000 in
theorem text4_any (v : Value) (zs : List Int) (w : World) (hi : IntsAt w v zs) (hp : Pieces4At w) : Calls Tryz.prog 18 #[v] w fun e w' => e = .returned (S (Lfc.textP ((zs.take 200).map ky))) ∧ Below w.heap.size w w' := by
 obtain ⟨i0, hi0, hz0, hz1, hz2⟩ := info_parts byteInfo
 obtain ⟨A, c, rfl, hmax, hcells⟩ := hi
 obtain ⟨pb, po, pc, hg, hpb, hgb, hps⟩ := hp
 unfold maxLen at hmax
 have Hcells := Lib.hid hcells
 have Hg := Lib.hid hg
 have Hps := Lib.hid hps
 clear hcells hg hps
 go_enter Tryz.func18, Tryz.ntmps18
 go_wp2_with fail
 go_loopw [3, 4] (fun o i wr => ∃ (k : Nat) (acc : List UInt8), k ≤ zs.length ∧ k ≤ 200 ∧ i = .int .i64 k ∧ acc.length ≤ 21 * k ∧ wr.ownsRow w.heap.size 5 1 o acc.length (Lib.byteCells acc) ∧ Below w.heap.size w wr ∧ Hid (acc = Lfc.textP ((zs.take k).map ky))) (fun _ i _ => zs.length - (intOf i).toNat)
 case atStart => exact ⟨0, [], by omega, by omega, rfl, by simp, own_nil _ _ _ _, Below.refl _ _, Lib.hid rfl⟩
 case round =>
  obtain ⟨k, acc, hk, hk3, rfl, hal, hown, hbw, hr⟩ := hrel
  obtain ⟨OA, oc, rfl⟩ := own_form hown
  by_cases hlt : k < zs.length ∧ k < 200
  ·obtain ⟨hlt, h300⟩ := hlt
   obtain ⟨b, o, rfl, hb, hcs⟩ := Hcells.out (by omega)
   have HT : Hid (Lfc.textP ((zs.take (k + 1)).map ky) = acc ++ (Lfc.pcs.getD (cutI (zs.getD k 0) 52) [] ++ [Lfc.sepB (cutI (IntKind.i64.wrap ((zs.getD k 0).tdiv 64)) 2)])) := Lib.hid (by
    show _ = acc ++ Lfc.pcText (ky (zs.getD k 0))
    have e : zs[k] = zs.getD k 0 := by simp [List.getD, hlt]
    rw [List.take_succ_eq_append_getElem hlt, e, hr.out]
    simp [Lfc.textP])
   have hcut := cutI_lt (zs.getD k 0) 52 (by omega)
   have hc1 : wr.cell? ⟨b, o + k, none⟩ = some (.int .i64 (zs.getD k 0)) := (hbw.cell (p := ⟨b, o + k, none⟩) hb).trans (hcs k hlt)
   have hc2 : wr.cell? ⟨1, 0, none⟩ = some (.slice (some ⟨pb, po, none⟩) 52 pc) := (hbw.cell (p := ⟨_, 0, none⟩) hgb).trans Hg.out
   have hc3 : wr.cell? ⟨pb, po + cutI (zs.getD k 0) 52, none⟩ = some (S (Lfc.pcs.getD (cutI (zs.getD k 0) 52) [])) := (hbw.cell (p := ⟨pb, po + cutI (zs.getD k 0) 52, none⟩) hpb).trans (Hps.out _ hcut)
   have hPl := (Lfc.pc_ok (cutI (zs.getD k 0) 52)).2.2.1
   have C1 := Lib.hid (fun W => cut_any (zs.getD k 0) 52 W (by omega) (by omega))
   have C2 := Lib.hid (fun W => cut_any (IntKind.i64.wrap ((zs.getD k 0).tdiv 64)) 2 W (by omega) (by omega))
   have hq2 := cutI_lt (IntKind.i64.wrap ((zs.getD k 0).tdiv 64)) 2 (by omega)
   generalize zs.getD k 0 = x at *
   generalize cutI x 52 = q at *
   generalize Lfc.pcs.getD q [] = P at *
   have hd1 : decide (k < zs.length) = true := by simpa using hlt
   have hd2 : decide ((k : Int) < 200) = true := by simp; omega
   have hq1 : (q : Int) < 52 := by omega
   clear hcs hr
   obtain ⟨s, hs⟩ : ∃ s : UInt8, s = Lfc.sepB (cutI (IntKind.i64.wrap (x.tdiv 64)) 2) := ⟨_, rfl⟩
   rw [← hs] at HT
   have hs2 : (cutI (IntKind.i64.wrap (x.tdiv 64)) 2 = 0 ∧ s = 32) ∨ (cutI (IntKind.i64.wrap (x.tdiv 64)) 2 = 1 ∧ s = 10) := by
    rcases Nat.lt_or_ge (cutI (IntKind.i64.wrap (x.tdiv 64)) 2) 1 with h | h
    ·left; rw [show cutI (IntKind.i64.wrap (x.tdiv 64)) 2 = 0 by omega] at hs ⊢; exact ⟨rfl, hs⟩
    ·right; rw [show cutI (IntKind.i64.wrap (x.tdiv 64)) 2 = 1 by omega] at hs ⊢; exact ⟨rfl, hs⟩
   clear hs hq2
   generalize cutI (IntKind.i64.wrap (x.tdiv 64)) 2 = q2 at *
   have HCB : Hid (b < w.heap.size ∧ w.cell? ⟨b, o + k, none⟩ = some (.int .i64 x) ∧ w.cell? ⟨pb, po + q, none⟩ = some (S P)) := Lib.hid ⟨hb, (hbw.cell (p := ⟨b, o + k, none⟩) hb).symm.trans hc1, (hbw.cell (p := ⟨pb, po + q, none⟩) hpb).symm.trans hc3⟩
   have hos := hown.drew
   have hws := hbw.size
   go_upto_region 5 with fail
   refine wp_region_held_drew (S := fun W => W.cell? ⟨b, o + k, none⟩ = some (.int .i64 x) ∧ W.cell? ⟨1, 0, none⟩ = some (.slice (some ⟨pb, po, none⟩) 52 pc) ∧ W.cell? ⟨pb, po + q, none⟩ = some (S P)) (by kernel_rfl) ⟨hc1, hc2, hc3⟩ (fun hHeld => ?_)
   refine tk 0 ?_
   refine tk 1 ?_
   refine tk 2 ?_
   refine tk 3 ?_
   refine tk 4 ?_
   refine tk 5 ?_
   refine tk 6 ?_
   refine tk 7 ?_
   refine tk 12 ?_
   refine tk 13 ?_
   refine tk 14 ?_
   refine tk 15 ?_
   refine tk 16 ?_
   refine wpAnyH_ready (rs := [8]) (by kernel_rfl) (by simp) (AllReadyH.cons rfl (fun K hK => ?_) AllReadyH.nil)
   go_simp
   go_at_call 23
   refine (C1.out _).mono ?_
   rintro e w1 ⟨rfl, rfl⟩
   go_simp
   refine hK.out _ _ hHeld (fun hHeld => ?_)
   clear hK K
   refine nrm ?_
   refine tk 9 ?_
   refine tk 10 ?_
   refine wpAnyH_ready (rs := [11]) (by kernel_rfl) (by simp) (AllReadyH.cons rfl (fun K hK => ?_) AllReadyH.nil)
   refine step_append_strP _ (by rfl) _ _ 68 9 (by rfl) w.heap.size 5 i0 Tryz.underlying68 Tryz.underlying9 hi0 hz0 hz1 hz2 _ _ _ (by rfl) hos ⟨P.toArray⟩ (by rfl) (by rw [bsize]; unfold maxLen; omega) (by rw [bsize]; omega) hws ?_
   intro v2 w2 hown2 hg2
   have hb2 : Below w.heap.size w w2 := hbw.drew.grown hg2 hbw.size (own_block_ge hos)
   have hown3 : w2.ownsRow w.heap.size 5 1 v2 (acc ++ P).length (Lib.byteCells (acc ++ P)) := by
    have e : Lib.byteCells (acc ++ P) = Lib.byteCells acc ++ Lib.strCells ⟨P.toArray⟩ := by simp [Lib.byteCells, Lib.strCells]
    rw [e, List.length_append]; rw [bsize] at hown2; exact hown2
   have HS2 : Hid (∀ W, Below w2.heap.size w2 W → W.cell? ⟨b, o + k, none⟩ = some (.int .i64 x) ∧ W.cell? ⟨1, 0, none⟩ = some (.slice (some ⟨pb, po, none⟩) 52 pc) ∧ W.cell? ⟨pb, po + q, none⟩ = some (S P)) := Lib.hid fun W hW => by
    have hb := hb2.trans (hW.mono hb2.size)
    exact ⟨(hb.cell (p := ⟨b, o + k, none⟩) HCB.out.1).trans HCB.out.2.1, (hb.cell (p := ⟨_, 0, none⟩) hgb).trans Hg.out, (hb.cell (p := ⟨pb, po + q, none⟩) hpb).trans HCB.out.2.2⟩
   have HB2 := Lib.hid hb2
   have hsz2 := hb2.size
   obtain ⟨A2, c2, rfl⟩ := own_form hown3
   have hal2 : (acc ++ P).length ≤ 21 * k + 20 := by rw [List.length_append]; omega
   have HAP : Hid ((acc ++ P) ++ [s] = acc ++ (P ++ [s])) := Lib.hid (List.append_assoc _ _ _)
   refine hK.out _ _ (HS2.out _ (Below.refl _ _)) (fun hHeld => ?_)
   clear hK K hown2 hg2 hb2 hc1 hc2 hc3 hos hown
   generalize acc ++ P = acc2 at *
   refine nrm ?_
   refine wpAnyH_ready (rs := [17]) (by kernel_rfl) (by simp) (AllReadyH.cons rfl (fun K hK => ?_) AllReadyH.nil)
   go_simp
   go_at_call 23
   refine (C2.out _).mono ?_
   rintro e w3 ⟨rfl, hw3⟩
   have hw3 := hw3.symm
   subst hw3
   go_simp
   refine hK.out _ _ hHeld (fun hHeld => ?_)
   clear hK K
   refine nrm ?_
   rcases hs2 with ⟨rfl, rfl⟩ | ⟨rfl, rfl⟩
   ·refine tk 18 ?_
    refine wpAnyH_ready (rs := [19]) (by kernel_rfl) (by simp) (AllReadyH.cons rfl (fun K hK => ?_) AllReadyH.nil)
    go_simp
    have bA : Below w2.heap.size w2 (w2.alloc (.cells #[.int .u8 32] 5)) := (Below.refl _ _).alloc (Nat.le_refl _) _
    refine hK.out _ _ (HS2.out _ bA) (fun hHeld => ?_)
    clear hK K
    refine nrm ?_
    refine wpAnyH_ready (rs := [20]) (by kernel_rfl) (by simp) (AllReadyH.cons rfl (fun K hK => ?_) AllReadyH.nil)
    refine step_append_own_at _ (by rfl) _ _ 68 (by rfl) w.heap.size 5 i0 (.int .u8 0) 1 1 Tryz.underlying68 hi0 hz0 hz1 hz2 rfl (by decide) _ _ _ (by rfl) (hown3.alloc _) ⟨w2.heap.size, 0, none⟩ 1 1 [.int .u8 32] (by rfl) (by rfl) (cell_one_new _ _ _) (by intro u hu; simp at hu; subst hu; rfl) (by unfold maxLen; omega) (by omega) (by simp; omega) ?_
    intro v4 w4 hown4 hg4 _
    have hb4 : Below w.heap.size w w4 := (HB2.out.trans (bA.mono HB2.out.size)).grown hg4 (by simp; omega) (own_block_ge hown3)
    have HS4 : Hid (w4.cell? ⟨b, o + k, none⟩ = some (.int .i64 x) ∧ w4.cell? ⟨1, 0, none⟩ = some (.slice (some ⟨pb, po, none⟩) 52 pc) ∧ w4.cell? ⟨pb, po + q, none⟩ = some (S P)) := Lib.hid ⟨(hb4.cell (p := ⟨b, o + k, none⟩) HCB.out.1).trans HCB.out.2.1, (hb4.cell (p := ⟨_, 0, none⟩) hgb).trans Hg.out, (hb4.cell (p := ⟨pb, po + q, none⟩) hpb).trans HCB.out.2.2⟩
    have hown5 : w4.ownsRow w.heap.size 5 1 v4 (acc2 ++ [32]).length (Lib.byteCells (acc2 ++ [32])) := by
     rw [List.length_append]
     simpa [Lib.byteCells] using hown4
    refine hK.out _ _ HS4.out (fun hHeld => ?_)
    clear hK K hown4 hown3 hg4 bA hHeld
    refine nrm ?_
    refine tk 21 ?_
    refine wpAnyH_done (by kernel_rfl) ?_ _
    go_wp2_with fail
    go_roundw
    case rel =>
     refine ⟨k + 1, acc2 ++ [32], by omega, by omega, by go_num, by simp; omega, hown5, hb4, Lib.hid ?_⟩
     rw [HT.out]
     exact HAP.out
    case measure => simp [intOf]; omega
   ·refine tk 18 ?_
    refine wpAnyH_ready (rs := [19]) (by kernel_rfl) (by simp) (AllReadyH.cons rfl (fun K hK => ?_) AllReadyH.nil)
    go_simp
    have bA : Below w2.heap.size w2 (w2.alloc (.cells #[.int .u8 10] 5)) := (Below.refl _ _).alloc (Nat.le_refl _) _
    refine hK.out _ _ (HS2.out _ bA) (fun hHeld => ?_)
    clear hK K
    refine nrm ?_
    refine wpAnyH_ready (rs := [20]) (by kernel_rfl) (by simp) (AllReadyH.cons rfl (fun K hK => ?_) AllReadyH.nil)
    refine step_append_own_at _ (by rfl) _ _ 68 (by rfl) w.heap.size 5 i0 (.int .u8 0) 1 1 Tryz.underlying68 hi0 hz0 hz1 hz2 rfl (by decide) _ _ _ (by rfl) (hown3.alloc _) ⟨w2.heap.size, 0, none⟩ 1 1 [.int .u8 10] (by rfl) (by rfl) (cell_one_new _ _ _) (by intro u hu; simp at hu; subst hu; rfl) (by unfold maxLen; omega) (by omega) (by simp; omega) ?_
    intro v4 w4 hown4 hg4 _
    have hb4 : Below w.heap.size w w4 := (HB2.out.trans (bA.mono HB2.out.size)).grown hg4 (by simp; omega) (own_block_ge hown3)
    have HS4 : Hid (w4.cell? ⟨b, o + k, none⟩ = some (.int .i64 x) ∧ w4.cell? ⟨1, 0, none⟩ = some (.slice (some ⟨pb, po, none⟩) 52 pc) ∧ w4.cell? ⟨pb, po + q, none⟩ = some (S P)) := Lib.hid ⟨(hb4.cell (p := ⟨b, o + k, none⟩) HCB.out.1).trans HCB.out.2.1, (hb4.cell (p := ⟨_, 0, none⟩) hgb).trans Hg.out, (hb4.cell (p := ⟨pb, po + q, none⟩) hpb).trans HCB.out.2.2⟩
    have hown5 : w4.ownsRow w.heap.size 5 1 v4 (acc2 ++ [10]).length (Lib.byteCells (acc2 ++ [10])) := by
     rw [List.length_append]
     simpa [Lib.byteCells] using hown4
    refine hK.out _ _ HS4.out (fun hHeld => ?_)
    clear hK K hown4 hown3 hg4 bA hHeld
    refine nrm ?_
    refine tk 21 ?_
    refine wpAnyH_done (by kernel_rfl) ?_ _
    go_wp2_with fail
    go_roundw
    case rel =>
     refine ⟨k + 1, acc2 ++ [10], by omega, by omega, by go_num, by simp; omega, hown5, hb4, Lib.hid ?_⟩
     rw [HT.out]
     exact HAP.out
    case measure => simp [intOf]; omega
  ·have hconv := own_string Tryz.underlying68 Tryz.underlying5 Tryz.underlying9 hown
   have hd : decide (k < zs.length) = false ∨ (decide (k < zs.length) = true ∧ decide ((k : Int) < 200) = false) := by
    by_cases h : k < zs.length
    ·exact .inr ⟨by simpa using h, by simp; omega⟩
    ·exact .inl (by simpa using h)
   have hfin : acc = Lfc.textP ((zs.take 200).map ky) := by
    have e : zs.take 200 = zs.take k := by
     rcases Nat.lt_or_ge k 200 with h | h
     ·rw [List.take_of_length_le (by omega), List.take_of_length_le (by omega)]
     ·rw [show k = 200 by omega]
    rw [e]; exact hr.out
   have Hfin := Lib.hid hfin
   clear hfin hlt
   rcases hd with hd1 | ⟨hd1, hd2⟩
   all_goals
    go_wp2_with fail
    go_ret
    exact ⟨by rw [← Hfin.out]; rfl, hbw⟩
end Go.Proofs.YthajalgkjonaaaaGreatDoor
namespace Go.Proofs.YthajalgkjonaaaaGreatDoor
open Go.RowKit
theorem runName0 (l : List UInt8) (w : World) (hl : l.length ≤ 65536) :
    Calls Tryz.prog 77 #[S l, .int .i64 0, .func (.func 76) #[] #[]] w fun e w' => e = .returned (.int .i64 ((Lfc.runLen Lfc.nameB l : Nat) : Int)) ∧ w = w' := by
  have h := runName_any l 0 w hl (Nat.zero_le _)
  rw [List.drop_zero, Nat.zero_add] at h
  exact h
set_option maxHeartbeats 1000000 in
theorem isName_any (l : List UInt8) (w : World) (hl : l.length ≤ 9223372036854775807) : Calls Tryz.prog 80 #[S l] w fun e w' => e = .returned (.bool (Lfc.isName l)) ∧ w = w' := by
  cases l with
  | nil =>
    go_enter Tryz.func80, Tryz.ntmps80
    go_wp2_with fail
    go_ret
    exact ⟨ret_bool (by simp [Lfc.isName]), rfl⟩
  | cons c r =>
    by_cases h64 : (c :: r).length ≤ 64
    · have hw : (c :: r).length ≤ 65536 := by omega
      have hd : decide ((r.length : Int) + 1 ≤ 64) = true := by simp at h64 ⊢; omega
      generalize hR : Lfc.runLen Lfc.nameB (c :: r) = n
      generalize hS : Lfc.reservedB (c :: r) = b
      have HR := Lib.hid hR
      have HS := Lib.hid hS
      clear hR hS
      cases b
      all_goals
       go_enter Tryz.func80, Tryz.ntmps80
       go_wp2_with (first | (go_at_call 77; refine (runName0 _ _ hw).mono ?_; rintro e w' ⟨rfl, rfl⟩; rw [HR.out]) | (go_at_call 146; refine (reserved_any _ _).mono ?_; rintro e w' ⟨rfl, rfl⟩; rw [HS.out]))
       all_goals
         go_ret
         exact ⟨ret_bool (by rw [Bool.eq_iff_iff]; have hr := HR.out; have hs := HS.out; simp [Lfc.isName, hr, hs] at *; try omega), rfl⟩
    · have hd : decide ((r.length : Int) + 1 ≤ 64) = false := by simp at h64 ⊢; omega
      go_enter Tryz.func80, Tryz.ntmps80
      go_wp2_with fail
      go_ret
      exact ⟨ret_bool (by simp only [Lfc.isName]; rw [decide_eq_false h64]; simp), rfl⟩
theorem runLen_all (p : UInt8 → Bool) (l : List UInt8) : Lfc.runLen p l = l.length ↔ ∀ k (h : k < l.length), p l[k] = true := by
  induction l with
  | nil => simp [Lfc.runLen]
  | cons c r ih =>
    rw [Lfc.runLen]
    constructor
    · intro h k hk
      have hle := Lfc.runLen_le p r
      split at h
      · rename_i hc
        cases k with
        | zero => exact hc
        | succ k => exact (ih.1 (by simp at h; omega)) k (by simpa using hk)
      · simp at h
    · intro h
      have hc : p c = true := h 0 (by simp)
      rw [if_pos hc, List.length_cons, ih.2 fun k hk => h (k + 1) (by simpa using hk)]
set_option maxHeartbeats 1000000 in
theorem rIsName_any (l : List UInt8) (w : World) (hl : l.length ≤ 9223372036854775807) : Calls Tryz.prog 124 #[S l] w fun e w' => e = .returned (.bool (Lfc.isName l)) ∧ w = w' := by
  cases l with
  | nil =>
    go_enter Tryz.func124, Tryz.ntmps124
    go_wp2_with fail
    go_ret
    exact ⟨ret_bool (by simp [Lfc.isName]), rfl⟩
  | cons c r =>
    have hz : ((r.length : Int) + 1 == 0) = false := by simp; omega
    by_cases h64 : (c :: r).length ≤ 64
    · have hd : decide (64 < (r.length : Int) + 1) = false := by simp at h64 ⊢; omega
      cases hS : Lfc.reservedB (c :: r)
      · have HS := Lib.hid hS
        clear hS
        by_cases hc : c.toNat = 64
        · have hc' : ((c.toNat : Int) == 64) = true := by simp; omega
          have hf : Lfc.isName (c :: r) = false := by simp [Lfc.isName, hc]
          rw [hf]
          clear hc hf
          go_enter Tryz.func124, Tryz.ntmps124
          go_wp2_with (go_at_call 172; refine (rReserved_any _ _).mono ?_; rintro e w' ⟨rfl, rfl⟩; rw [HS.out])
          go_ret
          exact ⟨rfl, rfl⟩
        · have hc' : ((c.toNat : Int) == 64) = false := by simp; omega
          have hn : Lfc.isName (c :: r) = decide (Lfc.runLen Lfc.nameB (c :: r) = (c :: r).length) := by
            simp only [Lfc.isName]; rw [decide_eq_true h64, HS.out]; simp [hc]
          have hall := runLen_all Lfc.nameB (c :: r)
          rw [hn]
          have Hall := Lib.hid hall
          clear hc hn hall
          go_enter Tryz.func124, Tryz.ntmps124
          go_wp2_with (go_at_call 172; refine (rReserved_any _ _).mono ?_; rintro e w' ⟨rfl, rfl⟩; rw [HS.out])
          go_loop [3] (fun i => ∃ k : Nat, k ≤ (c :: r).length ∧ i = .int .i64 k ∧ Hid (∀ j (h : j < (c :: r).length), j < k → Lfc.nameB (c :: r)[j] = true)) (fun i => (c :: r).length - (intOf i).toNat)
          case atStart => exact ⟨0, by simp, rfl, Lib.hid fun j _ h => by omega⟩
          case round =>
            obtain ⟨k, hk, rfl, hp⟩ := hrel
            by_cases hlt : k < (c :: r).length
            · have hlt' : k < r.length + 1 := by simpa using hlt
              cases hb : Lfc.nameB (c :: r)[k]
              · go_wp2_with fail
                refine (rNameByte_any _ _).mono ?_
                rintro e w' ⟨rfl, rfl⟩
                rw [hb]
                go_wp2_with fail
                go_ret
                exact ⟨ret_bool (by symm; apply decide_eq_false; intro hh; rw [Hall.out.1 hh k hlt] at hb; cases hb), rfl⟩
              · have Hb := Lib.hid hb
                clear hb
                go_wp2_with fail
                refine (rNameByte_any _ _).mono ?_
                rintro e w' ⟨rfl, rfl⟩
                rw [Hb.out]
                go_wp2_with fail
                go_round
                case rel =>
                  refine ⟨k + 1, by omega, by go_num, Lib.hid fun j h hj => ?_⟩
                  rcases Nat.lt_or_ge j k with h1 | h1
                  · exact hp.out j h h1
                  · obtain rfl : j = k := by omega
                    exact Hb.out
                case measure => simp [intOf] at *; omega
            · have hlt' : ¬ k < r.length + 1 := by simpa using hlt
              go_wp2_with fail
              go_ret
              exact ⟨ret_bool (by symm; apply decide_eq_true; exact Hall.out.2 fun j h => hp.out j h (by omega)), rfl⟩
      · have HS := Lib.hid hS
        have hf : Lfc.isName (c :: r) = false := by simp [Lfc.isName, hS]
        rw [hf]
        clear hS hf
        go_enter Tryz.func124, Tryz.ntmps124
        go_wp2_with (go_at_call 172; refine (rReserved_any _ _).mono ?_; rintro e w' ⟨rfl, rfl⟩; rw [HS.out])
        go_ret
        exact ⟨rfl, rfl⟩
    · have hd : decide (64 < (r.length : Int) + 1) = true := by simp at h64 ⊢; omega
      have hf : Lfc.isName (c :: r) = false := by simp only [Lfc.isName]; rw [decide_eq_false h64]; simp
      rw [hf]
      clear hf
      go_enter Tryz.func124, Tryz.ntmps124
      go_wp2_with fail
      go_ret
      exact ⟨rfl, rfl⟩
end Go.Proofs.YthajalgkjonaaaaGreatDoor
namespace Go.Proofs.YthajalgkjonaaaaGreatDoor
open Go.RowKit
theorem sizes_take (ts : List Lfc.Raw) (k : Nat) (h : k < ts.length) : Lfc.Raw.sizes (ts.take (k + 1)) = Lfc.Raw.sizes (ts.take k) + ts[k].size := by
 rw [List.take_succ_eq_append_getElem h, Lfc.Raw.sizes_app]; simp [Lfc.Raw.sizes]
theorem depths_take (ts : List Lfc.Raw) (k : Nat) (h : k < ts.length) : Lfc.Raw.depths (ts.take (k + 1)) = max (Lfc.Raw.depths (ts.take k)) ts[k].depth := by
 rw [List.take_succ_eq_append_getElem h, Lfc.Raw.depths_app]; simp [Lfc.Raw.depths]
theorem sizes_take_le (ts : List Lfc.Raw) (k : Nat) : Lfc.Raw.sizes (ts.take k) ≤ Lfc.Raw.sizes ts := by
 have : Lfc.Raw.sizes ts = Lfc.Raw.sizes (ts.take k) + Lfc.Raw.sizes (ts.drop k) := by rw [← Lfc.Raw.sizes_app, List.take_append_drop]
 omega
set_option maxRecDepth 100000 in
set_option maxHeartbeats 1000000 in
theorem size_any (m : Nat) : ∀ (t : Lfc.Raw) (v : Value) (w : World), t.size ≤ m → t.size ≤ 1000000000 → TreeV w t v →
  Calls Tryz.prog 104 #[v] w fun e w' => e = .returned (.int .i64 (t.size : Int)) ∧ Below w.heap.size w w' := by
 induction m with
 | zero => intro t v w h _ _; have := t.size_pos; omega
 | succ m ih =>
  intro t v w hm hmax hv
  obtain ⟨kd, nm, ps, ts⟩ := t
  obtain ⟨A, c, rfl, hc, hA⟩ := hv.open_
  simp only [Lfc.Raw.size] at hm hmax ⊢
  have hlen := Lfc.Raw.sizes_len ts
  have IH := Lib.hid ih
  have b0 : Below w.heap.size w (w.alloc (.cells #[.int .i64 kd, S nm, .int .i64 ps, .slice A ts.length c] 46)) := (Below.refl _ _).alloc (Nat.le_refl _) _
  have HA := Lib.hid hA
  clear ih hA hv
  go_enter Tryz.func104, Tryz.ntmps104
  go_wp2_with fail
  go_loopw [3, 9] (fun n i wr => ∃ k : Nat, k ≤ ts.length ∧ i = .int .i64 k ∧ n = .int .i64 ((Lfc.Raw.sizes (ts.take k) + 1 : Nat) : Int) ∧ Below w.heap.size w wr) (fun _ i _ => ts.length - (intOf i).toNat)
  case atStart => exact ⟨0, by omega, rfl, by simp [Lfc.Raw.sizes], b0⟩
  case round =>
   obtain ⟨k, hk, rfl, rfl, hbw⟩ := hrel
   have hle := sizes_take_le ts k
   by_cases hlt : k < ts.length
   ·obtain ⟨b, o, k1, n1, p1, us, B, c1, rfl, hb, ht, c0', c1', c2', c3', hcu, hB, hT⟩ := (HA.out.below hbw).at_ hlt
    have hst := sizes_take ts k hlt
    have hle2 := sizes_take_le ts (k + 1)
    have hmem := Lfc.Raw.sizes_mem ts ts[k] (List.getElem_mem _)
    have HS := Lib.hid hst
    clear hB ht
    have b1 : Below wr.heap.size wr (wr.alloc (.cells #[.int .i64 k1, S n1, .int .i64 p1, .slice B us.length c1] 46)) := (Below.refl _ _).alloc (Nat.le_refl _) _
    have hT2 := hT.below b1
    generalize hZ : ts[k].size = z at *
    generalize Lfc.Raw.sizes (ts.take k) = y at *
    have HZ := Lib.hid hZ
    clear hZ hst
    go_wp2_with fail
    refine (IH.out ts[k] _ _ (by rw [HZ.out]; omega) (by rw [HZ.out]; omega) hT2).mono ?_
    rintro e w1 ⟨rfl, hb1⟩
    rw [HZ.out]
    have hyz : y + z ≤ Lfc.Raw.sizes ts := by have := HS.out; omega
    go_wp2_with fail
    go_roundw
    case rel => exact ⟨k + 1, by omega, by go_num, by rw [HS.out]; go_num, hbw.trans ((b1.mono hbw.size).trans (hb1.mono (Nat.le_trans hbw.size b1.size)))⟩
    case measure => simp [intOf]; omega
   ·have hkl : k = ts.length := by omega
    go_wp2_with fail
    go_ret
    exact ⟨ret_int (by rw [hkl, List.take_length]), hbw⟩
theorem depths_le (l : List Lfc.Raw) : Lfc.Raw.depths l ≤ Lfc.Raw.sizes l := by
 induction l with
 | nil => simp [Lfc.Raw.depths, Lfc.Raw.sizes]
 | cons a r ih => have := Lfc.Raw.depth_le_size _ a (Nat.le_refl _); simp only [Lfc.Raw.depths, Lfc.Raw.sizes]; omega
set_option maxRecDepth 100000 in
set_option maxHeartbeats 1000000 in
theorem depth_any (m : Nat) : ∀ (t : Lfc.Raw) (v : Value) (w : World), t.size ≤ m → t.size ≤ 1000000000 → TreeV w t v →
  Calls Tryz.prog 105 #[v] w fun e w' => e = .returned (.int .i64 (t.depth : Int)) ∧ Below w.heap.size w w' := by
 induction m with
 | zero => intro t v w h _ _; have := t.size_pos; omega
 | succ m ih =>
  intro t v w hm hmax hv
  obtain ⟨kd, nm, ps, ts⟩ := t
  obtain ⟨A, c, rfl, hc, hA⟩ := hv.open_
  simp only [Lfc.Raw.size] at hm hmax
  simp only [Lfc.Raw.depth]
  have hlen := Lfc.Raw.sizes_len ts
  have IH := Lib.hid ih
  have b0 : Below w.heap.size w (w.alloc (.cells #[.int .i64 kd, S nm, .int .i64 ps, .slice A ts.length c] 46)) := (Below.refl _ _).alloc (Nat.le_refl _) _
  have HA := Lib.hid hA
  clear ih hA hv
  go_enter Tryz.func105, Tryz.ntmps105
  go_wp2_with fail
  go_loopw [3, 9] (fun n i wr => ∃ k : Nat, k ≤ ts.length ∧ i = .int .i64 k ∧ n = .int .i64 ((Lfc.Raw.depths (ts.take k) : Nat) : Int) ∧ Below w.heap.size w wr) (fun _ i _ => ts.length - (intOf i).toNat)
  case atStart => exact ⟨0, by omega, rfl, by simp [Lfc.Raw.depths], b0⟩
  case round =>
   obtain ⟨k, hk, rfl, rfl, hbw⟩ := hrel
   have hle := depths_le (ts.take k)
   have hle3 := sizes_take_le ts k
   by_cases hlt : k < ts.length
   ·obtain ⟨b, o, k1, n1, p1, us, B, c1, rfl, hb, ht, c0', c1', c2', c3', hcu, hB, hT⟩ := (HA.out.below hbw).at_ hlt
    have hst := depths_take ts k hlt
    have hmem := Lfc.Raw.sizes_mem ts ts[k] (List.getElem_mem _)
    have hdz := Lfc.Raw.depth_le_size _ ts[k] (Nat.le_refl _)
    have HS := Lib.hid hst
    clear hB ht
    have b1 : Below wr.heap.size wr (wr.alloc (.cells #[.int .i64 k1, S n1, .int .i64 p1, .slice B us.length c1] 46)) := (Below.refl _ _).alloc (Nat.le_refl _) _
    have hT2 := hT.below b1
    generalize hZ : ts[k].depth = z at *
    generalize hY : Lfc.Raw.depths (ts.take k) = y at *
    have HZ := Lib.hid hZ
    clear hZ hst hY
    go_wp2_with fail
    refine (IH.out ts[k] _ _ (by omega) (by omega) hT2).mono ?_
    rintro e w1 ⟨rfl, hb1⟩
    rw [HZ.out]
    go_wp2_with fail
    go_roundw
    case rel => exact ⟨k + 1, by omega, by go_num, by rw [HS.out]; congr 1; omega, hbw.trans ((b1.mono hbw.size).trans (hb1.mono (Nat.le_trans hbw.size b1.size)))⟩
    case measure => simp [intOf]; omega
   ·have hkl : k = ts.length := by omega
    have hd := depths_le ts
    go_wp2_with fail
    go_ret
    exact ⟨ret_int (by omega), hbw⟩
set_option maxRecDepth 100000 in
set_option maxHeartbeats 1000000 in
theorem rSize_any (m : Nat) : ∀ (t : Lfc.Raw) (v : Value) (w : World), t.size ≤ m → t.size ≤ 1000000000 → TreeV w t v →
  Calls Tryz.prog 68 #[v] w fun e w' => e = .returned (.int .i64 (t.size : Int)) ∧ Below w.heap.size w w' := by
 induction m with
 | zero => intro t v w h _ _; have := t.size_pos; omega
 | succ m ih =>
  intro t v w hm hmax hv
  obtain ⟨kd, nm, ps, ts⟩ := t
  obtain ⟨A, c, rfl, hc, hA⟩ := hv.open_
  simp only [Lfc.Raw.size] at hm hmax
  simp only [Lfc.Raw.size]
  have hlen := Lfc.Raw.sizes_len ts
  have IH := Lib.hid ih
  obtain ⟨w0, hw0⟩ : ∃ w0, w.alloc (.cells #[.int .i64 kd, S nm, .int .i64 ps, .slice A ts.length c] 46) = w0 := ⟨_, rfl⟩
  have b0 : Below w.heap.size w w0 := by rw [← hw0]; exact (Below.refl _ _).alloc (Nat.le_refl _) _
  have s0 : w.heap.size < w0.heap.size := by rw [← hw0]; simp
  have hbox : w0.cell? ⟨w.heap.size, 3, none⟩ = some (.slice A ts.length c) := by rw [← hw0]; simp [World.cell?_alloc_new]
  have HA := Lib.hid (hA.below b0)
  have HB := Lib.hid hbox
  clear ih hA hv hbox
  go_enter Tryz.func68, Tryz.ntmps68
  go_wp2_with fail
  generalize hG : w.heap.size = G at *
  go_loopw [3, 4] (fun n i wr => ∃ k : Nat, k ≤ ts.length ∧ i = .int .i64 k ∧ n = .int .i64 ((Lfc.Raw.sizes (ts.take k) + 1 : Nat) : Int) ∧ Below w0.heap.size w0 wr) (fun _ i _ => ts.length - (intOf i).toNat)
  case atStart => exact ⟨0, by omega, rfl, by simp [Lfc.Raw.sizes], by first | exact Below.refl _ _ | (rw [hw0]; exact Below.refl _ _)⟩
  case round =>
   have HGG := Lib.hid hG
   clear hw0 hG
   obtain ⟨k, hk, rfl, rfl, hbw⟩ := hrel
   have hbx : wr.cell? ⟨G, 3, none⟩ = some (.slice A ts.length c) := (hbw.cell (p := ⟨G, 3, none⟩) s0).trans HB.out
   have hle3 := sizes_take_le ts k
   by_cases hlt : k < ts.length
   ·obtain ⟨b, o, k1, n1, p1, us, B, c1, rfl, hb, ht, c0', c1', c2', c3', hcu, hB, hT⟩ := (HA.out.below hbw).at_ hlt
    have hst := sizes_take ts k hlt
    have hle2 := sizes_take_le ts (k + 1)
    have hmem := Lfc.Raw.sizes_mem ts ts[k] (List.getElem_mem _)
    have HS := Lib.hid hst
    clear hB ht
    generalize hZ : ts[k].size = z at *
    generalize hY : Lfc.Raw.sizes (ts.take k) = y at *
    have HZ := Lib.hid hZ
    clear hZ hst hY
    go_wp2_with fail
    refine (IH.out ts[k] _ _ (by rw [HZ.out]; omega) (by rw [HZ.out]; omega) hT).mono ?_
    rintro e w1 ⟨rfl, hb1⟩
    rw [HZ.out]
    have hyz : y + z ≤ Lfc.Raw.sizes ts := by have := HS.out; omega
    go_wp2_with fail
    go_roundw
    case rel => exact ⟨k + 1, by omega, by go_num, by rw [HS.out]; go_num, hbw.trans (hb1.mono hbw.size)⟩
    case measure => simp [intOf]; omega
   ·have hkl : k = ts.length := by omega
    go_wp2_with fail
    go_ret
    exact ⟨ret_int (by rw [hkl, List.take_length]), by rw [HGG.out]; exact b0.trans (hbw.mono (Nat.le_of_lt s0))⟩
set_option maxRecDepth 100000 in
set_option maxHeartbeats 1000000 in
theorem rDepth_any (m : Nat) : ∀ (t : Lfc.Raw) (v : Value) (w : World), t.size ≤ m → t.size ≤ 1000000000 → TreeV w t v →
  Calls Tryz.prog 69 #[v] w fun e w' => e = .returned (.int .i64 (t.depth : Int)) ∧ Below w.heap.size w w' := by
 induction m with
 | zero => intro t v w h _ _; have := t.size_pos; omega
 | succ m ih =>
  intro t v w hm hmax hv
  obtain ⟨kd, nm, ps, ts⟩ := t
  obtain ⟨A, c, rfl, hc, hA⟩ := hv.open_
  simp only [Lfc.Raw.size] at hm hmax
  simp only [Lfc.Raw.depth]
  have hlen := Lfc.Raw.sizes_len ts
  have IH := Lib.hid ih
  obtain ⟨w0, hw0⟩ : ∃ w0, w.alloc (.cells #[.int .i64 kd, S nm, .int .i64 ps, .slice A ts.length c] 46) = w0 := ⟨_, rfl⟩
  have b0 : Below w.heap.size w w0 := by rw [← hw0]; exact (Below.refl _ _).alloc (Nat.le_refl _) _
  have s0 : w.heap.size < w0.heap.size := by rw [← hw0]; simp
  have hbox : w0.cell? ⟨w.heap.size, 3, none⟩ = some (.slice A ts.length c) := by rw [← hw0]; simp [World.cell?_alloc_new]
  have HA := Lib.hid (hA.below b0)
  have HB := Lib.hid hbox
  clear ih hA hv hbox
  go_enter Tryz.func69, Tryz.ntmps69
  go_wp2_with fail
  generalize hG : w.heap.size = G at *
  go_loopw [3, 4] (fun n i wr => ∃ k : Nat, k ≤ ts.length ∧ i = .int .i64 k ∧ n = .int .i64 ((Lfc.Raw.depths (ts.take k) : Nat) : Int) ∧ Below w0.heap.size w0 wr) (fun _ i _ => ts.length - (intOf i).toNat)
  case atStart => exact ⟨0, by omega, rfl, by simp [Lfc.Raw.depths], by first | exact Below.refl _ _ | (rw [hw0]; exact Below.refl _ _)⟩
  case round =>
   have HGG := Lib.hid hG
   clear hw0 hG
   obtain ⟨k, hk, rfl, rfl, hbw⟩ := hrel
   have hbx : wr.cell? ⟨G, 3, none⟩ = some (.slice A ts.length c) := (hbw.cell (p := ⟨G, 3, none⟩) s0).trans HB.out
   have hle3 := sizes_take_le ts k
   have hle := depths_le (ts.take k)
   by_cases hlt : k < ts.length
   ·obtain ⟨b, o, k1, n1, p1, us, B, c1, rfl, hb, ht, c0', c1', c2', c3', hcu, hB, hT⟩ := (HA.out.below hbw).at_ hlt
    have hst := depths_take ts k hlt
    have hle2 := sizes_take_le ts (k + 1)
    have hmem := Lfc.Raw.sizes_mem ts ts[k] (List.getElem_mem _)
    have hdz := Lfc.Raw.depth_le_size _ ts[k] (Nat.le_refl _)
    have HS := Lib.hid hst
    clear hB ht
    generalize hZ : ts[k].depth = z at *
    generalize hY : Lfc.Raw.depths (ts.take k) = y at *
    have HZ := Lib.hid hZ
    clear hZ hst hY
    go_wp2_with fail
    refine (IH.out ts[k] _ _ (by omega) (by omega) hT).mono ?_
    rintro e w1 ⟨rfl, hb1⟩
    rw [HZ.out]
    go_wp2_with fail
    go_roundw
    case rel => exact ⟨k + 1, by omega, by go_num, by rw [HS.out]; congr 1; omega, hbw.trans (hb1.mono hbw.size)⟩
    case measure => simp [intOf]; omega
   ·have hkl : k = ts.length := by omega
    have hd := depths_le ts
    go_wp2_with fail
    go_ret
    exact ⟨ret_int (by omega), by rw [HGG.out]; exact b0.trans (hbw.mono (Nat.le_of_lt s0))⟩
end Go.Proofs.YthajalgkjonaaaaGreatDoor
namespace Go.Proofs.YthajalgkjonaaaaGreatDoor
open Go.RowKit
theorem sames_spec (at_ : Bool) : ∀ (ts us : List Lfc.Raw), Lfc.Raw.sames at_ ts us = true ↔ ts.length = us.length ∧ ∀ k (h : k < ts.length) (h' : k < us.length), Lfc.Raw.same at_ ts[k] us[k] = true
 | [], [] => by simp [Lfc.Raw.sames]
 | [], _ :: _ => by simp [Lfc.Raw.sames]
 | _ :: _, [] => by simp [Lfc.Raw.sames]
 | a :: r, b :: q => by
  rw [Lfc.Raw.sames, Bool.and_eq_true, sames_spec at_ r q]
  constructor
  ·rintro ⟨h1, h2, h3⟩
   refine ⟨by simp [h2], fun k h h' => ?_⟩
   cases k with
   | zero => exact h1
   | succ k => exact h3 k (by simpa using h) (by simpa using h')
  ·rintro ⟨h1, h2⟩
   exact ⟨h2 0 (by simp) (by simp), by simpa using h1, fun k h h' => h2 (k + 1) (by simpa using h) (by simpa using h')⟩
theorem sames_false (at_ : Bool) (ts us : List Lfc.Raw) (k : Nat) (h : k < ts.length) (h' : k < us.length) (hf : Lfc.Raw.same at_ ts[k] us[k] = false) : Lfc.Raw.sames at_ ts us = false := by
 cases hs : Lfc.Raw.sames at_ ts us
 ·rfl
 ·rw [((sames_spec at_ ts us).1 hs).2 k h h'] at hf; cases hf
theorem sames_len (at_ : Bool) (ts us : List Lfc.Raw) (h : ts.length ≠ us.length) : Lfc.Raw.sames at_ ts us = false := by
 cases hs : Lfc.Raw.sames at_ ts us
 ·rfl
 ·exact absurd ((sames_spec at_ ts us).1 hs).1 h
end Go.Proofs.YthajalgkjonaaaaGreatDoor
