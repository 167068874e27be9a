/- Parts of the proof: OpArrP, OpArrM, OpArr1. -/
import Derived.Test.YtkhfnkokdmoipaaOpM4
import Derived.Laws.AppendOwnNone
import Derived.IntWalk
/- Chains of arrows: what they resolve to. No program in sight. -/
set_option linter.unusedVariables false
set_option linter.unusedSimpArgs false
namespace Lfc
def nmT (n : List UInt8) : Raw := .node 1 n 0 []
def nmO (n : List UInt8) : Opd := ⟨nmT n, false⟩
def alts (a : List UInt8) (r : List (List UInt8)) : List Opd := r.flatMap fun y => [nmO a, nmO y]
def alt (a : List UInt8) (z : List UInt8) (r : List (List UInt8)) : List Opd := nmO z :: alts a r
def odds : Nat → Nat → List Nat
  | _, 0 => []
  | b, n + 1 => b :: odds (b + 2) n
def arrowT (a b : Raw) : Raw := .node 6 [] 0 [a, b]
def arrowsT : List UInt8 → List (List UInt8) → Raw
  | z, [] => nmT z
  | z, y :: r => arrowT (nmT z) (arrowsT y r)
/-- A name that is no arrow. -/
def Plain (n : List UInt8) : Prop := isName n = true ∧ n ≠ arrR ∧ n ≠ arrL
theorem alts_cons (a y : List UInt8) (r : List (List UInt8)) : alts a (y :: r) = nmO a :: nmO y :: alts a r := rfl
theorem alts_len (a : List UInt8) : ∀ r, (alts a r).length = 2 * r.length
  | [] => rfl
  | y :: r => by rw [alts_cons, List.length_cons, List.length_cons, List.length_cons, alts_len a r]; omega
theorem alts_app (a : List UInt8) (r r' : List (List UInt8)) : alts a (r ++ r') = alts a r ++ alts a r' := by simp [alts]
theorem op_plain {n : List UInt8} (h : Plain n) : opOf [] (nmO n) = none := by
  unfold opOf
  rw [if_neg (by simp [nmO, nmT, Raw.kind])]
  show look [] n = none
  unfold look
  rw [if_neg h.2.1, if_neg h.2.2]; rfl
theorem op_R : opOf [] (nmO arrR) = some ⟨[], 5, -1⟩ := rfl
theorem op_L : opOf [] (nmO arrL) = some ⟨[], 4, -1⟩ := rfl
theorem lowN_alts (a : List UInt8) (f : Int) (ha : opOf [] (nmO a) = some ⟨[], f, -1⟩) : ∀ (r : List (List UInt8)) (at_ : List Nat) (i : Nat), (∀ y ∈ r, Plain y) → at_.length ≠ 0 → lowN [] ⟨at_, ⟨[], f, -1⟩, true⟩ i (alts a r) = ⟨at_ ++ odds i r.length, ⟨[], f, -1⟩, true⟩
  | [], at_, i, _, _ => by simp [alts, lowN, odds]
  | y :: r, at_, i, hy, hne => by
    rw [alts_cons, lowN, lowN, ha, op_plain (hy y List.mem_cons_self)]
    have e1 : lowStep ⟨at_, ⟨[], f, -1⟩, true⟩ i (some ⟨[], f, -1⟩) = ⟨at_ ++ [i], ⟨[], f, -1⟩, true⟩ := by
      unfold lowStep
      simp [hne]
    rw [e1]
    have e2 : lowStep ⟨at_ ++ [i], ⟨[], f, -1⟩, true⟩ (i + 1) none = ⟨at_ ++ [i], ⟨[], f, -1⟩, true⟩ := rfl
    rw [e2, lowN_alts a f ha r (at_ ++ [i]) (i + 1 + 1) (fun z hz => hy z (List.mem_cons_of_mem _ hz)) (by simp)]
    simp [odds]
theorem low_alt (a : List UInt8) (f : Int) (ha : opOf [] (nmO a) = some ⟨[], f, -1⟩) (z : List UInt8) (hz : Plain z) (y : List UInt8) (r : List (List UInt8)) (hr : ∀ x ∈ y :: r, Plain x) : low [] (alt a z (y :: r)) = ⟨odds 1 (y :: r).length, ⟨[], f, -1⟩, true⟩ := by
  unfold low alt
  rw [lowN, op_plain hz, alts_cons, lowN, ha, lowN, op_plain (hr y List.mem_cons_self)]
  have e1 : lowStep (lowStep lowZ 0 none) (0 + 1) (some ⟨[], f, -1⟩) = ⟨[1], ⟨[], f, -1⟩, true⟩ := by
    show lowStep lowZ 1 (some ⟨[], f, -1⟩) = _
    unfold lowStep lowZ
    simp
  rw [e1]
  have e2 : lowStep ⟨[1], ⟨[], f, -1⟩, true⟩ (0 + 1 + 1) none = ⟨[1], ⟨[], f, -1⟩, true⟩ := rfl
  rw [e2, lowN_alts a f ha r [1] _ (fun x hx => hr x (List.mem_cons_of_mem _ hx)) (by simp)]
  simp [odds]
theorem segs_alt (a : List UInt8) (s : List Opd) : ∀ (r : List (List UInt8)) (z : List UInt8) (b : Nat), s.drop b = alt a z r → segs s b (odds (b + 1) r.length ++ [s.length]) = [nmO z] :: r.map (fun y => [nmO y])
  | [], z, b, h => by
    simp only [List.length_nil, odds, List.nil_append, segs, List.take_length, List.map_nil, h]
    rfl
  | y :: r, z, b, h => by
    have hd : s.drop (b + 2) = alt a y r := by
      rw [← List.drop_drop, h]
      rfl
    have h1 : (s.take (b + 1)).drop b = [nmO z] := by
      rw [List.drop_take, h]
      simp [alt]
    simp only [List.length_cons, odds, List.cons_append, segs, h1]
    rw [segs_alt a s r y (b + 2) hd]
    rfl
theorem ops_alt (a : List UInt8) (s : List Opd) : ∀ (r : List (List UInt8)) (z : List UInt8) (b : Nat), s.drop b = alt a z r → opTrees s (odds (b + 1) r.length) = r.map (fun _ => nmT a)
  | [], z, b, h => rfl
  | y :: r, z, b, h => by
    have hd : s.drop (b + 2) = alt a y r := by
      rw [← List.drop_drop, h]
      rfl
    have h1 : s.getD (b + 1) opdZ = nmO a := by
      have : s[b + 1]? = (s.drop b)[1]? := by rw [List.getElem?_drop]
      rw [List.getD_eq_getElem?_getD, this, h]
      rfl
    have ih := ops_alt a s r y (b + 2) hd
    unfold opTrees at ih ⊢
    simp only [List.length_cons, odds, List.map_cons, h1]
    rw [ih]
    rfl
theorem low_one {z : List UInt8} (hz : Plain z) : low [] [nmO z] = lowZ := by
  unfold low
  rw [lowN, op_plain hz]
  rfl
theorem resP_one {z : List UInt8} (hz : Plain z) (m : Nat) : resP [] (m + 1) [nmO z] = .ok (nmT z) := by
  have e : resP [] (m + 1) [nmO z] = resBody [] (resP [] m) [nmO z] := if_neg (by simp)
  rw [e]
  unfold resBody
  rw [low_one hz]
  rfl
theorem allOk_ones (m : Nat) : ∀ (l : List (List UInt8)), (∀ x ∈ l, Plain x) → allOk (resP [] (m + 1)) (l.map fun y => [nmO y]) = .ok (l.map nmT)
  | [], _ => rfl
  | x :: r, h => by
    rw [List.map_cons, allOk, resP_one (h x List.mem_cons_self) m]
    simp only
    rw [allOk_ones m r (fun y hy => h y (List.mem_cons_of_mem _ hy))]
    rfl
theorem joinR_arr : ∀ (r : List (List UInt8)) (z : List UInt8), joinR rawZ (r.map (fun _ => nmT arrR)) ((z :: r).map nmT) = arrowsT z r
  | [], z => rfl
  | y :: r, z => by
    rw [List.map_cons, List.map_cons, joinR, joinR_arr r y]
    rfl
theorem joinL_arr : ∀ (r : List (List UInt8)) (t : Raw), joinL t ((r.map (fun _ => nmT arrL)).zip (r.map nmT)) = r.foldl (fun t y => arrowT (nmT y) t) t
  | [], t => rfl
  | y :: r, t => by
    have := joinL_arr r (arrowT (nmT y) t)
    unfold joinL at this ⊢
    simp only [List.map_cons, List.zip_cons_cons, List.foldl_cons]
    exact this
theorem fold_arr : ∀ (r : List (List UInt8)) (z : List UInt8) (t : Raw), r.reverse.foldl (fun t y => arrowT (nmT y) t) t = r.foldr (fun y t => arrowT (nmT y) t) t := fun r z t => by rw [List.foldl_reverse]
theorem arrows_foldr : ∀ (r : List (List UInt8)) (z : List UInt8), arrowsT z r = ((z :: r).dropLast).foldr (fun y t => arrowT (nmT y) t) (nmT ((z :: r).getLast (by simp)))
  | [], z => rfl
  | y :: r, z => by
    rw [arrowsT, arrows_foldr r y]
    rfl

def chainO (a : List UInt8) : List (List UInt8) → List Opd
  | [] => []
  | z :: r => alt a z r
theorem chainO_len (a : List UInt8) : ∀ l, (chainO a l).length = 2 * l.length - 1
  | [] => rfl
  | z :: r => by simp only [chainO, alt, List.length_cons, alts_len]; omega
theorem chainO_snoc (a x : List UInt8) : ∀ l, l ≠ [] → chainO a (l ++ [x]) = chainO a l ++ [nmO a] ++ [nmO x]
  | [], h => absurd rfl h
  | z :: r, _ => by
    show alt a z (r ++ [x]) = _
    simp [alt, alts_app, chainO, alts]
theorem chainO_cons (a x : List UInt8) : ∀ l, l ≠ [] → chainO a (x :: l) = nmO x :: nmO a :: chainO a l
  | [], h => absurd rfl h
  | z :: r, _ => rfl
theorem chainO_mem (a : List UInt8) (l : List (List UInt8)) (x : Opd) (h : x ∈ chainO a l) : x = nmO a ∨ ∃ n ∈ l, x = nmO n := by
  cases l with
  | nil => cases h
  | cons z r =>
    simp only [chainO, alt, alts, List.mem_cons, List.mem_flatMap, List.not_mem_nil, or_false] at h
    rcases h with h | ⟨y, hy, h | h⟩
    · exact .inr ⟨z, List.mem_cons_self, h⟩
    · exact .inl h
    · exact .inr ⟨y, List.mem_cons_of_mem _ hy, h⟩
theorem wf_nm {n : List UInt8} (h : isName n = true) : (nmT n).wf = 0 := by
  unfold nmT Raw.wf
  have : (Raw.node 1 n 0 []).form = true := by simp [Raw.form, Raw.forms, formed, h]
  rw [this]
  rfl
theorem any_wf (c : Int) (hc : c ≠ 0) (s : List Opd) (h : ∀ x ∈ s, x.arrow = true ∨ x.tree.wf = 0) : s.any (fun x => !x.arrow && decide (x.tree.wf = c)) = false := by
  rw [List.any_eq_false]
  intro x hx
  rcases h x hx with h | h
  · simp [h]
  · simp [h]; intro _ h0; exact hc h0.symm
theorem arrow_R : (nmO arrR).arrow = true := rfl
theorem arrow_L : (nmO arrL).arrow = true := rfl
theorem arrow_plain {n : List UInt8} (h : Plain n) : (nmO n).arrow = false := by
  have h1 := h.2.1
  have h2 := h.2.2
  simp [Opd.arrow, nmO, nmT, Raw.name, h1, h2]
theorem arrows_form : ∀ (r : List (List UInt8)) (z : List UInt8), Plain z → (∀ x ∈ r, Plain x) → (arrowsT z r).form = true ∧ (arrowsT z r).size = 2 * r.length + 1 ∧ (arrowsT z r).depth = r.length + 1
  | [], z, hz, _ => by
    have := hz.1
    simp [arrowsT, nmT, Raw.form, Raw.forms, formed, this, Raw.size, Raw.sizes, Raw.depth, Raw.depths]
  | y :: r, z, hz, hr => by
    obtain ⟨h1, h2, h3⟩ := arrows_form r y (hr y List.mem_cons_self) (fun x hx => hr x (List.mem_cons_of_mem _ hx))
    have := hz.1
    simp only [arrowsT, arrowT, nmT, Raw.form, Raw.forms, formed, Raw.size, Raw.sizes, Raw.depth, Raw.depths, h1, h2, h3, List.length_cons]
    refine ⟨by simp [this], by omega, by omega⟩
theorem arrows_wf (r : List (List UInt8)) (z : List UInt8) (hz : Plain z) (hr : ∀ x ∈ r, Plain x) (hl : r.length ≤ 100) : (arrowsT z r).wf = 0 := by
  obtain ⟨h1, h2, h3⟩ := arrows_form r z hz hr
  unfold Raw.wf
  rw [h1, h2, h3, if_neg (by simp), if_neg (by omega)]
theorem resP_alt (a : List UInt8) (f : Int) (hf : f = 4 ∨ f = 5) (ha : opOf [] (nmO a) = some ⟨[], f, -1⟩) (z y : List UInt8) (r : List (List UInt8)) (hz : Plain z) (hr : ∀ x ∈ y :: r, Plain x) : resP [] (alt a z (y :: r)).length (alt a z (y :: r)) = .ok (joined f ((y :: r).map fun _ => nmT a) ((z :: y :: r).map nmT)) := by
  have hlen : (alt a z (y :: r)).length = 2 * r.length + 1 + 1 + 1 := by
    simp only [alt, List.length_cons, alts_len]; omega
  have hs := segs_alt a (alt a z (y :: r)) (y :: r) z 0 rfl
  have ho := ops_alt a (alt a z (y :: r)) (y :: r) z 0 rfl
  have hk := low_alt a f ha z hz y r hr
  have hall := allOk_ones (2 * r.length + 1) (z :: y :: r) (fun x hx => by
    rcases List.mem_cons.1 hx with rfl | hx
    · exact hz
    · exact hr x hx)
  rw [hlen] at hs ⊢
  generalize alt a z (y :: r) = s at *
  have e : resP [] (2 * r.length + 1 + 1 + 1) s = resBody [] (resP [] (2 * r.length + 1 + 1)) s := if_neg (by omega)
  rw [e]
  unfold resBody
  rw [hk]
  have ho1 : (odds 1 (y :: r).length).length ≠ 0 := by simp [odds]
  simp only
  rw [if_neg ho1, if_neg (by simp), if_neg (by omega), if_neg (by omega), if_neg (by omega)]
  unfold binT
  rw [hlen]
  simp only [Nat.zero_add] at hs ho
  rw [hs]
  have hm : ([nmO z] :: (y :: r).map (fun y => [nmO y])) = (z :: y :: r).map (fun y => [nmO y]) := rfl
  rw [hm, hall]
  simp only
  rw [ho]
theorem resolved_alt (a : List UInt8) (f : Int) (hf : f = 4 ∨ f = 5) (harr : (nmO a).arrow = true) (ha : opOf [] (nmO a) = some ⟨[], f, -1⟩) (z : List UInt8) (r : List (List UInt8)) (hz : Plain z) (hr : ∀ x ∈ r, Plain x) (t : Raw) (ht : joined f (r.map fun _ => nmT a) ((z :: r).map nmT) = t) (hw : t.wf = 0) : resolved [] (alt a z r) = (t, 0) := by
  have hall : ∀ x ∈ alt a z r, x.arrow = true ∨ x.tree.wf = 0 := fun x hx => by
    rcases chainO_mem a (z :: r) x hx with rfl | ⟨n, hn, rfl⟩
    · exact .inl harr
    · refine .inr (wf_nm ?_)
      rcases List.mem_cons.1 hn with rfl | hn
      · exact hz.1
      · exact (hr n hn).1
  unfold resolved
  rw [if_neg (by simp), any_wf 1 (by decide) _ hall, any_wf 2 (by decide) _ hall, if_neg (by simp), if_neg (by simp)]
  cases r with
  | nil =>
    have h0 := arrow_plain hz
    rw [if_pos (show (alt a z []).length = 1 from rfl)]
    show (if (nmO z).arrow = true then (rawZ, (21 : Int)) else (nmT z, 0)) = _
    rw [h0]
    rcases hf with rfl | rfl
    · rw [← ht]; rfl
    · rw [← ht]; rfl
  | cons y r =>
    rw [if_neg (by simp only [alt, List.length_cons, alts_len]; omega), resP_alt a f hf ha z y r hz hr, ht]
    simp only
    rw [if_pos hw]
theorem resolved_R (l : List (List UInt8)) (z : List UInt8) (r : List (List UInt8)) (hl : l = z :: r) (hp : ∀ x ∈ l, Plain x) (hn : l.length ≤ 100) : resolved [] (chainO arrR l) = (arrowsT z r, 0) := by
  subst hl
  have hz := hp z List.mem_cons_self
  have hr : ∀ x ∈ r, Plain x := fun x hx => hp x (List.mem_cons_of_mem _ hx)
  simp only [List.length_cons] at hn
  exact resolved_alt arrR 5 (.inr rfl) arrow_R op_R z r hz hr _ (by unfold joined; rw [if_pos rfl]; exact joinR_arr r z) (arrows_wf r z hz hr (by omega))
theorem resolved_L (l : List (List UInt8)) (z : List UInt8) (r : List (List UInt8)) (hl : l = z :: r) (hp : ∀ x ∈ l, Plain x) (hn : l.length ≤ 100) : resolved [] (chainO arrL l.reverse) = (arrowsT z r, 0) := by
  subst hl
  have hz := hp z List.mem_cons_self
  have hr : ∀ x ∈ r, Plain x := fun x hx => hp x (List.mem_cons_of_mem _ hx)
  simp only [List.length_cons] at hn
  have hrev : (z :: r).reverse = (z :: r).getLast (by simp) :: (z :: r).dropLast.reverse := by
    have : (z :: r).dropLast ++ [(z :: r).getLast (by simp)] = z :: r := List.dropLast_concat_getLast _
    conv => lhs; rw [← this]
    simp
  rw [hrev]
  refine resolved_alt arrL 4 (.inl rfl) arrow_L op_L _ _ (hp _ (List.getLast_mem _)) (fun x hx => hp x ((List.dropLast_sublist _).subset (List.mem_reverse.1 hx))) _ ?_ (arrows_wf r z hz hr (by omega))
  unfold joined
  rw [if_neg (by decide)]
  simp only [List.map_cons, List.getD_cons_zero, List.drop_succ_cons, List.drop_zero]
  rw [joinL_arr, fold_arr _ z, ← arrows_foldr]
theorem opOf_nil (x : Opd) : opOf [] x = none ∨ ∃ o, opOf [] x = some o ∧ o.prec = -1 := by
  unfold opOf look
  split
  · exact .inl rfl
  · split
    · exact .inr ⟨_, rfl, rfl⟩
    · split
      · exact .inr ⟨_, rfl, rfl⟩
      · exact .inl rfl
theorem lowN_false : ∀ (s : List Opd) (st : LowS) (i : Nat), st.same = false → st.first.prec = -1 → st.at_.length ≠ 0 → (lowN [] st i s).same = false ∧ (lowN [] st i s).at_.length ≠ 0
  | [], st, i, h1, h2, h3 => ⟨h1, h3⟩
  | x :: s, st, i, h1, h2, h3 => by
    rw [lowN]
    rcases opOf_nil x with h | ⟨o, h, ho⟩
    · rw [h]; exact lowN_false s st (i + 1) h1 h2 h3
    · rw [h]
      have e : lowStep st i (some o) = ⟨st.at_ ++ [i], st.first, st.same && decide (o.fix = st.first.fix)⟩ := by
        unfold lowStep
        simp only
        rw [if_neg (by omega), if_pos (by omega)]
      rw [e]
      exact lowN_false s _ (i + 1) (by simp [h1]) h2 (by simp)
theorem low_mixed (z y y' : List UInt8) (q : List Opd) (hz : Plain z) (hy : Plain y) : (low [] (nmO z :: nmO arrL :: nmO y :: nmO arrR :: q)).same = false ∧ (low [] (nmO z :: nmO arrL :: nmO y :: nmO arrR :: q)).at_.length ≠ 0 := by
  unfold low
  rw [lowN, op_plain hz, lowN, op_L, lowN, op_plain hy, lowN, op_R]
  exact lowN_false q ⟨[1, 3], ⟨[], 4, -1⟩, false⟩ _ rfl rfl (by simp)
theorem resolved_mixed (z y : List UInt8) (r : List (List UInt8)) (hp : ∀ x ∈ z :: y :: r, Plain x) (hr : r ≠ []) : resolved [] ((chainO arrR (z :: y :: r)).set 1 (nmO arrL)) = (rawZ, 22) := by
  obtain ⟨y', r', rfl⟩ := List.exists_cons_of_ne_nil hr
  have hall : ∀ x ∈ (chainO arrR (z :: y :: y' :: r')).set 1 (nmO arrL), x.arrow = true ∨ x.tree.wf = 0 := fun x hx => by
    rcases List.mem_or_eq_of_mem_set hx with hx | rfl
    · rcases chainO_mem arrR _ x hx with rfl | ⟨n, hn, rfl⟩
      · exact .inl arrow_R
      · exact .inr (wf_nm (hp n hn).1)
    · exact .inl arrow_L
  have hs : (chainO arrR (z :: y :: y' :: r')).set 1 (nmO arrL) = nmO z :: nmO arrL :: nmO y :: nmO arrR :: nmO y' :: alts arrR r' := rfl
  rw [hs] at hall ⊢
  have hk := low_mixed z y y' (nmO y' :: alts arrR r') (hp z List.mem_cons_self) (hp y (by simp))
  unfold resolved
  rw [if_neg (by simp), any_wf 1 (by decide) _ hall, any_wf 2 (by decide) _ hall, if_neg (by simp), if_neg (by simp), if_neg (by simp)]
  generalize nmO y' :: alts arrR r' = q at *
  have e : resP [] (nmO z :: nmO arrL :: nmO y :: nmO arrR :: q).length (nmO z :: nmO arrL :: nmO y :: nmO arrR :: q) = .error 22 := by
    have e0 : resP [] (nmO z :: nmO arrL :: nmO y :: nmO arrR :: q).length (nmO z :: nmO arrL :: nmO y :: nmO arrR :: q) = resBody [] (resP [] (nmO arrL :: nmO y :: nmO arrR :: q).length) (nmO z :: nmO arrL :: nmO y :: nmO arrR :: q) := if_neg (by simp)
    rw [e0]
    unfold resBody
    rw [if_neg hk.2, if_pos hk.1]
  rw [e]
theorem wsum_nm : ∀ (s : List Opd), (∀ x ∈ s, ∃ n, x = nmO n) → wsum s = 3 * s.length
  | [], _ => rfl
  | x :: r, h => by
    obtain ⟨n, rfl⟩ := h x List.mem_cons_self
    rw [wsum, wsum_nm r (fun y hy => h y (List.mem_cons_of_mem _ hy)), List.length_cons]
    show 1 + 2 + 3 * r.length = _
    omega
theorem chainO_nm (a : List UInt8) (l : List (List UInt8)) (x : Opd) (h : x ∈ chainO a l) : ∃ n, x = nmO n := by
  rcases chainO_mem a l x h with rfl | ⟨n, _, rfl⟩ <;> exact ⟨_, rfl⟩
theorem sames_refl (b : Bool) : ∀ (r : List (List UInt8)) (z : List UInt8), (arrowsT z r).same b (arrowsT z r) = true
  | [], z => by simp [arrowsT, nmT, Raw.same, Raw.sames]
  | y :: r, z => by
    have := sames_refl b r y
    simp only [arrowsT, arrowT, nmT, Raw.same, Raw.sames, this]
    simp
theorem alt_drop (a : List UInt8) : ∀ (j : Nat) (z : List UInt8) (r : List (List UInt8)) (z' : List UInt8) (r' : List (List UInt8)), (z :: r).drop j = z' :: r' → (alt a z r).drop (2 * j) = alt a z' r'
  | 0, z, r, z', r', h => by cases h; rfl
  | j + 1, z, [], z', r', h => by simp at h
  | j + 1, z, y :: r, z', r', h => by
    have := alt_drop a j y r z' r' h
    rw [show 2 * (j + 1) = 2 * j + 2 by omega, ← this]
    rfl
theorem chainO_get (a : List UInt8) (j : Nat) (z : List UInt8) (r : List (List UInt8)) (z' : List UInt8) (r' : List (List UInt8)) (h : (z :: r).drop j = z' :: r') : (chainO a (z :: r))[2 * j]? = some (nmO z') := by
  have := alt_drop a j z r z' r' h
  have h2 : (chainO a (z :: r))[2 * j]? = ((alt a z r).drop (2 * j))[0]? := by rw [List.getElem?_drop]; rfl
  rw [h2, this]
  rfl
end Lfc

/- Chains of names in memory: the two rows of OperatorArrows. -/
set_option linter.unusedVariables false
set_option linter.unusedSimpArgs false
namespace Go.Proofs.Ytkhfnkokdmoipaa
open Go.RowKit Go.Maps Go.WideMaps

def nC (n : List UInt8) : List Value := [.int .i64 1, S n, .int .i64 0, .slice none 0 0, .bool false]
def nCells (s : List Lfc.Opd) : List Value := s.flatMap fun x => nC x.tree.name
theorem nCells_len : ∀ s, (nCells s).length = s.length * 5
  | [] => rfl
  | x :: r => by
    have := nCells_len r
    simp only [nCells, List.flatMap_cons, List.length_append, List.length_cons] at this ⊢
    rw [this]
    simp [nC]; omega
theorem nCells_app (a b : List Lfc.Opd) : nCells (a ++ b) = nCells a ++ nCells b := by simp [nCells]
theorem nCells_cons (x : Lfc.Opd) (b : List Lfc.Opd) : nCells (x :: b) = nC x.tree.name ++ nCells b := rfl
theorem nC_one (n : List UInt8) : ∀ u ∈ nC n, u.oneCell' = true := by
  intro u hu
  simp only [nC, List.mem_cons, List.not_mem_nil, or_false] at hu
  rcases hu with rfl | rfl | rfl | rfl | rfl <;> rfl
theorem nCells_one (s : List Lfc.Opd) : ∀ u ∈ nCells s, u.oneCell' = true := by
  intro u hu
  obtain ⟨x, _, hx⟩ := List.mem_flatMap.1 hu
  exact nC_one _ u hx
theorem nCells_get : ∀ (s : List Lfc.Opd) (i : Nat) (h : i < s.length), (nCells s)[i * 5]? = some (.int .i64 1) ∧ (nCells s)[i * 5 + 1]? = some (S s[i].tree.name) ∧ (nCells s)[i * 5 + 2]? = some (.int .i64 0) ∧ (nCells s)[i * 5 + 3]? = some (.slice none 0 0) ∧ (nCells s)[i * 5 + 4]? = some (.bool false)
  | [], i, h => absurd h (by simp)
  | x :: r, 0, h => ⟨rfl, rfl, rfl, rfl, rfl⟩
  | x :: r, i + 1, h => by
    have := nCells_get r i (by simpa using h)
    rw [show (i + 1) * 5 = i * 5 + 1 + 1 + 1 + 1 + 1 by omega]
    simpa [nCells, nC] using this
/-- Operands that are names. -/
def NamesO (s : List Lfc.Opd) : Prop := ∀ x ∈ s, ∃ n, x = Lfc.nmO n ∧ n.length ≤ 1000000
theorem OpdsAt.of_own {w : World} {base c : Nat} {A : Option Addr} {s : List Lfc.Opd} (hn : NamesO s) (h : w.ownsRow base 37 5 (.slice A s.length c) s.length (nCells s)) : OpdsAt w A s := fun hne => by
  rcases h.2 with ⟨_, h0⟩ | ⟨g, cap, cur, hv, hbg, hg, _⟩
  · exact absurd (List.length_eq_zero_iff.1 h0) hne
  · have hv' := hv
    injection hv with e1 _ e3
    subst e1 e3
    have hc := own_cells h
    refine ⟨g, 0, rfl, lt_of_block hg, fun i hi => ?_⟩
    obtain ⟨c0, c1, c2, c3, c4⟩ := nCells_get s i hi
    obtain ⟨n, hx, hl⟩ := hn _ (List.getElem_mem hi)
    rw [hx] at c1 ⊢
    exact opdC_name hl (hc _ _ c0) (hc _ _ c1) (hc _ _ c2) (hc _ _ c3) (hc _ _ c4)
/-- The two rows of the loop. -/
structure ArrI (w : World) (s b : List Lfc.Opd) (vs vb : Value) (wr : World) : Prop where
  bel : Below w.heap.size w wr
  own : wr.ownsRow w.heap.size 37 5 vs s.length (nCells s)
  back : wr.ownsRow w.heap.size 37 5 vb b.length (nCells b)
  ne : vs.ownBlock = none ∨ vs.ownBlock ≠ vb.ownBlock
theorem ArrI.new {w wr W : World} {s b : List Lfc.Opd} {vs vb : Value} (h : ArrI w s b vs vb wr) (hb : Below wr.heap.size wr W) : ArrI w s b vs vb W :=
  ⟨h.bel.trans (hb.mono h.bel.size), own_below h.own hb, own_below h.back hb, h.ne⟩
theorem ArrI.pushS {w W w' : World} {s b : List Lfc.Opd} {vs vb v' : Value} {n : List UInt8} (h : ArrI w s b vs vb W) (hg : W.grownBy w' vs.ownBlock) (ho : w'.ownsRow w.heap.size 37 5 v' (s.length + 1) (nCells s ++ nC n)) (hl : v'.ownBlock = vs.ownBlock ∨ v'.ownBlock = some W.heap.size) : ArrI w (s ++ [Lfc.nmO n]) b v' vb w' := by
  refine ⟨h.bel.grown hg h.bel.size (fun k hk => (h.own.lt k hk).1), ?_, h.back.kept hg ?_, ?_⟩
  · rw [nCells_app, List.length_append]; exact ho
  · rcases h.ne with e | e
    · rw [e]
      cases vb.ownBlock with
      | none => exact .inl rfl
      | some k => exact .inr (by simp)
    · exact .inr (fun e' => e e'.symm)
  · rcases hl with e | e
    · rw [e]; exact h.ne
    · refine .inr ?_
      rw [e]
      intro e'
      have := (h.back.lt _ e'.symm).2
      omega
theorem ArrI.pushB {w wr W w' : World} {s b : List Lfc.Opd} {vs vb v' : Value} {n : List UInt8} (h : ArrI w s b vs vb wr) (hb : Below wr.heap.size wr W) {g : Nat} (hge : wr.heap.size ≤ g) (hgl : g < W.heap.size) (hg : W.grownBy w' (some g)) (ho : w'.ownsRow w.heap.size 37 5 v' (1 + b.length) (nC n ++ nCells b)) (hl : v'.ownBlock = some g ∨ v'.ownBlock = some W.heap.size) : ArrI w s (Lfc.nmO n :: b) vs v' w' := by
  have hW := h.new hb
  have hs := h.bel.size
  refine ⟨hW.bel.grown hg hW.bel.size (fun k hk => by have := Option.some.inj hk; omega), hW.own.kept hg (.inr (fun e => by have := (h.own.lt _ e).2; omega)), ?_, .inr (fun e => ?_)⟩
  · rw [nCells_cons, List.length_cons, Nat.add_comm]; exact ho
  · rcases hl with e' | e'
    · have := (h.own.lt _ (e.trans e')).2; omega
    · have := (h.own.lt _ (e.trans e')).2; have := hb.size; omega
theorem opd_info : ∃ i, Try.prog.info? 37 = some i ∧ i.zero = some (.agg #[.int .i64 0, S [], .int .i64 0, .slice none 0 0, .bool false]) ∧ i.size = 5 ∧ i.bytes = 64 := by
  obtain ⟨i0, hi, hz0, hz1, hz2⟩ := info_parts (show (Try.prog.info? 37).map (fun i => (i.zero, i.size, i.bytes)) = some (some (.agg #[.int .i64 0, S [], .int .i64 0, .slice none 0 0, .bool false]), 5, 64) by kernel_rfl)
  exact ⟨i0, hi, hz0, hz1, hz2⟩
/-- A fresh row of one name. -/
theorem own_one (w : World) (base : Nat) (h : base ≤ w.heap.size) (n : List UInt8) : (w.alloc (.cells #[.int .i64 1, S n, .int .i64 0, .slice none 0 0, .bool false] 37)).ownsRow base 37 5 (.slice (some ⟨w.heap.size, 0, none⟩) 1 1) 1 (nC n) :=
  ⟨rfl, .inr ⟨w.heap.size, 1, _, rfl, h, heap_alloc_new _ _, Nat.le_refl _, by unfold maxLen; omega, rfl, rfl⟩⟩
theorem cell_five_new (w : World) (n : List UInt8) : ∀ j u, (nC n)[j]? = some u → (w.alloc (.cells #[.int .i64 1, S n, .int .i64 0, .slice none 0 0, .bool false] 37)).cell? ((⟨w.heap.size, 0, none⟩ : Addr).add j) = some u := by
  intro j u hj
  rw [Go.WideShapes.add_plain, Nat.zero_add]
  have h := heap_alloc_new w (.cells #[.int .i64 1, S n, .int .i64 0, .slice none 0 0, .bool false] 37)
  match j, hj with
  | 0, hj => simp [nC] at hj; subst hj; exact Lib.cell_of_heap h 0
  | 1, hj => simp [nC] at hj; subst hj; exact Lib.cell_of_heap h 1
  | 2, hj => simp [nC] at hj; subst hj; exact Lib.cell_of_heap h 2
  | 3, hj => simp [nC] at hj; subst hj; exact Lib.cell_of_heap h 3
  | 4, hj => simp [nC] at hj; subst hj; exact Lib.cell_of_heap h 4
  | j + 5, hj => simp [nC] at hj
end Go.Proofs.Ytkhfnkokdmoipaa

/- The walk of the law OperatorArrows. -/
set_option linter.unusedVariables false
set_option linter.unusedSimpArgs false
namespace Lfc
def abcd : List (List UInt8) := [[97], [98], [99], [100]]
theorem abcd_plain (k : Nat) (h : k < 4) : Plain (abcd.getD k []) ∧ (abcd.getD k []).length ≤ 1 := by
  have : ∀ k : Fin 4, isName (abcd.getD k.val []) = true ∧ abcd.getD k.val [] ≠ arrR ∧ abcd.getD k.val [] ≠ arrL ∧ (abcd.getD k.val []).length ≤ 1 := by decide
  have := this ⟨k, h⟩
  exact ⟨⟨this.1, this.2.1, this.2.2.1⟩, this.2.2.2⟩
end Lfc
namespace Go.Proofs.Ytkhfnkokdmoipaa
open Go.RowKit Go.Maps Go.WideMaps

theorem abcd_cell (w : World) (k : Nat) (h : k < 4) : (w.alloc (.cells #[S [97], S [98], S [99], S [100]] 9)).cell? ⟨w.heap.size, k, none⟩ = some (S (Lfc.abcd.getD k [])) := by
  have q := heap_alloc_new w (.cells #[S [97], S [98], S [99], S [100]] 9)
  match k, h with
  | 0, _ => exact Lib.cell_of_heap q 0
  | 1, _ => exact Lib.cell_of_heap q 1
  | 2, _ => exact Lib.cell_of_heap q 2
  | 3, _ => exact Lib.cell_of_heap q 3
theorem names_chain {a : List UInt8} {ns : List (List UInt8)} (ha : a.length ≤ 1000000) (h : ∀ x ∈ ns, Lfc.Plain x ∧ x.length ≤ 1) : NamesO (Lfc.chainO a ns) := fun x hx => by
  rcases Lfc.chainO_mem a ns x hx with rfl | ⟨n, hn, rfl⟩
  · exact ⟨a, rfl, ha⟩
  · exact ⟨n, rfl, by have := (h n hn).2; omega⟩

theorem box5 {w : World} {g : Nat} {n : List UInt8} (h : w.heap[g]? = some (.cells #[.int .i64 1, S n, .int .i64 0, .slice none 0 0, .bool false] 37 (0, 0))) : w.cell? ⟨g, 0, none⟩ = some (.int .i64 1) ∧ w.cell? ⟨g, 1, none⟩ = some (S n) ∧ w.cell? ⟨g, 2, none⟩ = some (.int .i64 0) ∧ w.cell? ⟨g, 3, none⟩ = some (.slice none 0 0) ∧ w.cell? ⟨g, 4, none⟩ = some (.bool false) :=
  ⟨Lib.cell_of_heap h 0, Lib.cell_of_heap h 1, Lib.cell_of_heap h 2, Lib.cell_of_heap h 3, Lib.cell_of_heap h 4⟩
/-- A new block of one name. -/
theorem lay5 (w : World) (n : List UInt8) : ∃ w', w.alloc (.cells #[.int .i64 1, S n, .int .i64 0, .slice none 0 0, .bool false] 37) = w' ∧ Below w.heap.size w w' ∧ w'.heap[w.heap.size]? = some (.cells #[.int .i64 1, S n, .int .i64 0, .slice none 0 0, .bool false] 37 (0, 0)) ∧ (w.heap.size + 1 ≤ w'.heap.size ∧ w'.heap.size ≤ w.heap.size + 1) ∧ (∀ j u, (nC n)[j]? = some u → w'.cell? ((⟨w.heap.size, 0, none⟩ : Addr).add j) = some u) ∧ (∀ base, base ≤ w.heap.size → w'.ownsRow base 37 5 (.slice (some ⟨w.heap.size, 0, none⟩) 1 1) 1 (nC n)) :=
  ⟨_, rfl, (Below.refl _ _).alloc (Nat.le_refl _) _, heap_alloc_new _ _, by simp, cell_five_new w n, fun base h => own_one w base h n⟩

theorem own_cap {w : World} {base : Nat} {e : TypeId} {size n : Nat} {v : Value} {xs : List Value} (h : w.ownsRow base e size v n xs) : ∃ A c, v = .slice A n c ∧ n ≤ c := by
  rcases h.2 with ⟨rfl, rfl⟩ | ⟨g, cap, cur, rfl, _, _, hnc, _⟩
  · exact ⟨none, 0, rfl, Nat.le_refl _⟩
  · exact ⟨_, cap, rfl, hnc⟩
theorem ops_nil (w : World) : OpsAt w none [] := ⟨fun x h => by (cases h), fun h => absurd rfl h⟩
/-- The rows, and the variable x at g. -/
structure ArrJ (w : World) (g : Nat) (n : List UInt8) (s b : List Lfc.Opd) (vs vb : Value) (W : World) : Prop where
  rows : ArrI w s b vs vb W
  box : W.heap[g]? = some (.cells #[.int .i64 1, S n, .int .i64 0, .slice none 0 0, .bool false] 37 (0, 0))
  off : vs.ownBlock ≠ some g
theorem ArrJ.new {w wr W : World} {g : Nat} {n : List UInt8} {s b : List Lfc.Opd} {vs vb : Value} (h : ArrJ w g n s b vs vb wr) (hb : Below wr.heap.size wr W) : ArrJ w g n s b vs vb W :=
  ⟨h.rows.new hb, (hb.block _ (lt_of_block h.box)).trans h.box, h.off⟩
theorem ArrJ.pushS {w W w' : World} {g : Nat} {n : List UInt8} {s b : List Lfc.Opd} {vs vb v' : Value} {m : List UInt8} (h : ArrJ w g n s b vs vb W) (hg : W.grownBy w' vs.ownBlock) (ho : w'.ownsRow w.heap.size 37 5 v' (s.length + 1) (nCells s ++ nC m)) (hl : v'.ownBlock = vs.ownBlock ∨ v'.ownBlock = some W.heap.size) : ArrJ w g n (s ++ [Lfc.nmO m]) b v' vb w' := by
  have hlt := lt_of_block h.box
  refine ⟨h.rows.pushS hg ho hl, (hg.block g hlt (fun e => h.off e.symm)).trans h.box, ?_⟩
  rcases hl with e | e
  · rw [e]; exact h.off
  · rw [e]; intro e'; have := Option.some.inj e'; omega
theorem ArrJ.pushB {w wr W w' : World} {g0 : Nat} {n0 : List UInt8} {s b : List Lfc.Opd} {vs vb v' : Value} {n : List UInt8} (h : ArrJ w g0 n0 s b vs vb wr) (hb : Below wr.heap.size wr W) {g : Nat} (hge : wr.heap.size ≤ g) (hgl : g < W.heap.size) (hg : W.grownBy w' (some g)) (ho : w'.ownsRow w.heap.size 37 5 v' (1 + b.length) (nC n ++ nCells b)) (hl : v'.ownBlock = some g ∨ v'.ownBlock = some W.heap.size) : ArrJ w g0 n0 s (Lfc.nmO n :: b) vs v' w' := by
  have hlt := lt_of_block h.box
  refine ⟨h.rows.pushB hb hge hgl hg ho hl, (hg.block g0 (by omega) (fun e => by have := Option.some.inj e; omega)).trans ((h.new hb).box), h.off⟩
theorem back_src {W : World} {base : Nat} {vb : Value} {b : List Lfc.Opd} (h : W.ownsRow base 37 5 vb b.length (nCells b)) (hb : 0 < b.length) : ∃ ad c, vb = .slice (some ad) b.length c ∧ ∀ w', Below W.heap.size W w' → ∀ j u, (nCells b)[j]? = some u → w'.cell? (ad.add j) = some u := by
  rcases h.2 with ⟨_, h0⟩ | ⟨g, cap, cur, hv, hbg, hg, _⟩
  · omega
  · subst hv
    have hc := own_cells h
    refine ⟨⟨g, 0, none⟩, cap, rfl, fun w' hb' j u hj => ?_⟩
    rw [Go.WideShapes.add_plain]
    exact (hb'.cell (p := ⟨g, _, none⟩) (lt_of_block hg)).trans (hc j u hj)

theorem OpdsAt.of_cells {w : World} {g : Nat} {s : List Lfc.Opd} (hn : NamesO s) (hlt : g < w.heap.size) (hc : CellsAt w g 0 (nCells s)) : OpdsAt w (some ⟨g, 0, none⟩) s := fun _ => by
  refine ⟨g, 0, rfl, hlt, fun i hi => ?_⟩
  obtain ⟨c0, c1, c2, c3, c4⟩ := nCells_get s i hi
  obtain ⟨n, hx, hl⟩ := hn _ (List.getElem_mem hi)
  rw [hx] at c1 ⊢
  exact opdC_name hl (hc _ _ c0) (hc _ _ c1) (hc _ _ c2) (hc _ _ c3) (hc _ _ c4)
theorem nCells_set1 (s : List Lfc.Opd) (n : List UInt8) (h : 1 < s.length) : nCells (s.set 1 (Lfc.nmO n)) = (((((nCells s).set 5 (.int .i64 1)).set 6 (S n)).set 7 (.int .i64 0)).set 8 (.slice none 0 0)).set 9 (.bool false) := by
  match s, h with
  | x :: y :: r, _ => simp [nCells, nC, Lfc.nmO, Lfc.nmT, Lfc.Raw.name]
theorem names_set1 {s : List Lfc.Opd} (h : NamesO s) (n : List UInt8) (hn : n.length ≤ 1000000) : NamesO (s.set 1 (Lfc.nmO n)) := fun x hx => by
  rcases List.mem_or_eq_of_mem_set hx with hx | rfl
  · exact h x hx
  · exact ⟨n, rfl, hn⟩
/-- A struct of five cells is stored into a row's second element. -/
theorem put5one {W : World} {g : Nat} {xs : List Value} {cur : Array Value} {t : TypeId} (h : W.heap[g]? = some (.cells cur t (0, 0))) (hc : CellsAt W g 0 xs) (hi : 9 < xs.length) (v0 v1 v2 v3 v4 : Value) : ∃ s1 s2 s3 s4 s5 a0 a1 a2 a3 a4, W.setCell ⟨g, 5, none⟩ v0 = s1 ∧ s1.setCell ⟨g, 6, none⟩ v1 = s2 ∧ s2.setCell ⟨g, 7, none⟩ v2 = s3 ∧ s3.setCell ⟨g, 8, none⟩ v3 = s4 ∧ s4.setCell ⟨g, 9, none⟩ v4 = s5 ∧
    (W.cell? ⟨g, 5, none⟩ = some a0 ∧ s1.cell? ⟨g, 6, none⟩ = some a1 ∧ s2.cell? ⟨g, 7, none⟩ = some a2 ∧ s3.cell? ⟨g, 8, none⟩ = some a3 ∧ s4.cell? ⟨g, 9, none⟩ = some a4) ∧
    (W.frozen? ⟨g, 5, none⟩ = false ∧ s1.frozen? ⟨g, 6, none⟩ = false ∧ s2.frozen? ⟨g, 7, none⟩ = false ∧ s3.frozen? ⟨g, 8, none⟩ = false ∧ s4.frozen? ⟨g, 9, none⟩ = false) ∧
    CellsAt s5 g 0 (((((xs.set 5 v0).set 6 v1).set 7 v2).set 8 v3).set 9 v4) ∧ Oth g W s5 := by
  have fz : ∀ (j : Nat) (V : World) (v : Value) (c : Array Value), V.heap[g]? = some (.cells c t (0, 0)) → (V.setCell ⟨g, j, none⟩ v).heap[g]? = some (.cells (c.set! j v) t (0, 0)) := fun j V v c hV => by simp [World.setCell, Array.getElem?_modify, hV]
  have c1 := hc.set (j0 := 5) v0
  have c2 := c1.set (j0 := 6) v1
  have c3 := c2.set (j0 := 7) v2
  have c4 := c3.set (j0 := 8) v3
  have c5 := c4.set (j0 := 9) v4
  simp only [Nat.zero_add] at c1 c2 c3 c4 c5
  have h1 := fz 5 W v0 _ h
  have h2 := fz 6 _ v1 _ h1
  have h3 := fz 7 _ v2 _ h2
  have h4 := fz 8 _ v3 _ h3
  have e0 := hc 5 _ (List.getElem?_eq_getElem (by omega))
  have e1 := c1 6 _ (List.getElem?_eq_getElem (by simp; omega))
  have e2 := c2 7 _ (List.getElem?_eq_getElem (by simp; omega))
  have e3 := c3 8 _ (List.getElem?_eq_getElem (by simp; omega))
  have e4 := c4 9 _ (List.getElem?_eq_getElem (by simp; omega))
  rw [Nat.zero_add] at e0 e1 e2 e3 e4
  exact ⟨_, _, _, _, _, _, _, _, _, _, rfl, rfl, rfl, rfl, rfl, ⟨e0, e1, e2, e3, e4⟩, ⟨Lib.frozen_of_heap h _, Lib.frozen_of_heap h1 _, Lib.frozen_of_heap h2 _, Lib.frozen_of_heap h3 _, Lib.frozen_of_heap h4 _⟩, c5, ((((Oth.set W v0).trans (Oth.set _ v1)).trans (Oth.set _ v2)).trans (Oth.set _ v3)).trans (Oth.set _ v4)⟩

/-- The second loop: the variable a at B = w1.heap.size, its tree below B. -/
structure ArrL (w1 : World) (z : List UInt8) (r : List (List UInt8)) (k p : Int) (n : List UInt8) (us : List Lfc.Raw) (A : Option Addr) (c : Nat) (wq : World) : Prop where
  bel : Below w1.heap.size w1 wq
  box : wq.heap[w1.heap.size]? = some (.cells #[.int .i64 k, S n, .int .i64 p, .slice A us.length c] 32 (0, 0))
  eq : Lfc.arrowsT z r = .node k n p us
  tree : TreeV w1 (Lfc.arrowsT z r) (.agg #[.int .i64 k, S n, .int .i64 p, .slice A us.length c])

set_option maxRecDepth 100000 in
set_option maxHeartbeats 4000000 in
theorem operatorArrows_walk (v0 : Value) (zs : List Int) (w : World) (i0 : IntsAt w v0 zs) :
    Calls Try.prog 4 #[v0] w fun e w' => e = .returned (.bool true) ∧ Below w.heap.size w w' := by
  obtain ⟨A, c, rfl, hmax, hcells⟩ := i0
  obtain ⟨it, hi, hz0, hz1, hz2⟩ := opd_info
  unfold maxLen at hmax
  have Hcells := Lib.hid hcells
  clear hcells
  go_enter Try.func4, Try.ntmps4
  go_wp2_with fail
  go_loopw [3, 4, 5] (fun vs vb i wr => ∃ (k : Nat) (ns : List (List UInt8)), k ≤ zs.length ∧ k ≤ 30 ∧ i = .int .i64 k ∧ (k ≤ ns.length ∧ ns.length ≤ k) ∧ Hid (ArrI w (Lfc.chainO Lfc.arrR ns) (Lfc.chainO Lfc.arrL ns.reverse) vs vb wr) ∧ Hid (∀ x ∈ ns, Lfc.Plain x ∧ x.length ≤ 1) ∧ (k = 0 → vs = .slice none 0 0 ∧ vb = .slice none 0 0)) (fun _ _ i _ => zs.length - (intOf i).toNat)
  case atStart => exact ⟨0, [], by omega, by omega, rfl, by simp, Lib.hid ⟨Below.refl _ _, own_nil _ _ _ _, own_nil _ _ _ _, .inl rfl⟩, Lib.hid (by simp), fun _ => ⟨rfl, rfl⟩⟩
  case round =>
    obtain ⟨k, ns, hk, hk3, rfl, hkn, HI, HN, hk0⟩ := hrel
    by_cases hlt : k < zs.length ∧ k < 30
    · obtain ⟨hlt, h300⟩ := hlt
      obtain ⟨b, o, rfl, hb, hcs⟩ := Hcells.out (by omega)
      have hbw := HI.out.bel
      have hc1 : wr.cell? ⟨b, o + k, none⟩ = some (.int .i64 (zs.getD k 0)) := (hbw.cell (p := ⟨b, o + k, none⟩) hb).trans (hcs k hlt)
      generalize zs.getD k 0 = x at *
      have hcut := cutI_lt x 4 (by omega)
      have CC := Lib.hid (fun W => cut_any x 4 W (by omega) (by omega))
      generalize cutI x 4 = q at *
      obtain ⟨w1, hw1⟩ : ∃ w1, wr.alloc (.cells #[S [97], S [98], S [99], S [100]] 9) = w1 := ⟨_, rfl⟩
      have b1 : Below wr.heap.size wr w1 := by rw [← hw1]; exact (Below.refl _ _).alloc (Nat.le_refl _) _
      have hc2 : w1.cell? ⟨b, o + k, none⟩ = some (.int .i64 x) := (b1.cell (p := ⟨b, o + k, none⟩) (Nat.lt_of_lt_of_le hb hbw.size)).trans hc1
      have hc3 : w1.cell? ⟨wr.heap.size, q, none⟩ = some (S (Lfc.abcd.getD q [])) := by rw [← hw1]; exact abcd_cell wr q hcut
      have HP := Lib.hid (Lfc.abcd_plain q hcut)
      generalize Lfc.abcd.getD q [] = n at *
      have I1 := Lib.hid (HI.out.new b1)
      have hq1 : (q : Int) < 4 := by omega
      have hd1 : decide ((k : Int) < zs.length) = true := by simp; omega
      have hd2 : decide ((k : Int) < 30) = true := by simp; omega
      have B1 := Lib.hid b1
      clear hcs hbw hc1 b1 HI
      go_wp2_with fail
      refine (CC.out _).mono ?_
      rintro e w1' ⟨rfl, hw1'⟩
      obtain rfl := hw1'.symm
      go_wp2_with fail
      refine (name_any3 n _).mono ?_
      rintro e w2 ⟨rfl, b2⟩
      obtain ⟨w3, hw3, b3, q3, s3, _, _⟩ := lay5 w2 n
      have hs1 := B1.out.size
      have hs2 := b2.size
      have hs0 := I1.out.bel.size
      have J3 : Hid (ArrJ w w2.heap.size n (Lfc.chainO Lfc.arrR ns) (Lfc.chainO Lfc.arrL ns.reverse) u3 u4 w3) := Lib.hid ⟨(I1.out.new b2).new b3, q3, fun e => by have := (I1.out.own.lt _ e).2; omega⟩
      have HW1 := Lib.hid hw1
      have HW3 := Lib.hid hw3
      clear b2 b3 q3 hw1 hw3 I1
      go_upto_region 6 with fail
      rw [HW3.out]
      by_cases hk1 : k = 0
      · subst hk1
        obtain ⟨rfl, rfl⟩ := hk0 rfl
        obtain rfl : ns = [] := List.eq_nil_of_length_eq_zero (by omega)
        obtain ⟨w4, hw4, b4, q4, s4, hc4, ho4⟩ := lay5 w3 n
        obtain ⟨y0, y1, y2, y3, y4⟩ := box5 J3.out.box
        have J4 := Lib.hid (J3.out.new b4)
        have HC4 := Lib.hid hc4
        clear b4 q4 ho4 hc4
        have hsz4 : w.heap.size ≤ w4.heap.size := J4.out.rows.bel.size
        go_wp2_with (at_builtin; refine wpList_append_own_at _ rfl _ _ 27 rfl w.heap.size 37 it (.agg #[.int .i64 0, S [], .int .i64 0, .slice none 0 0, .bool false]) 5 64 Try.underlying27 hi hz0 hz1 hz2 rfl (by decide) _ 0 [] rfl (own_nil _ _ _ _) ⟨w3.heap.size, 0, none⟩ 1 1 (nC n) rfl rfl HC4.out (nC_one _) (by unfold maxLen; omega) (by omega) hsz4 ?_)
        intro v5 w5 hown5 hg5 _ hloc5
        have J5 := Lib.hid (J4.out.pushS hg5 hown5 hloc5)
        clear hown5 hg5 hloc5 y0 y1 y2 y3 y4 hw4
        obtain ⟨w6, hw6, b6, q6, s6, hc6, ho6⟩ := lay5 w5 n
        obtain ⟨y0, y1, y2, y3, y4⟩ := box5 J5.out.box
        have hsz5 : w.heap.size ≤ w5.heap.size := J5.out.rows.bel.size
        have HO6 := Lib.hid (ho6 w.heap.size hsz5)
        have J6 := Lib.hid (J5.out.pushB b6 (Nat.le_refl _) (by omega) (World.grownBy.refl _ _) (HO6.out) (.inl rfl))
        clear b6 q6 hc6 ho6
        go_wp2_with (at_builtin; refine wpList_append_own_none rfl _ _ 27 rfl w.heap.size 37 it 5 Try.underlying27 hi _ 1 (nC n) rfl HO6.out rfl ?_)
        go_wp2_with fail
        go_roundw
        case rel =>
          exact ⟨1, [n], by omega, by omega, by go_num, by simp, Lib.hid J6.out.rows, Lib.hid (fun y hy => by simp at hy; subst hy; exact HP.out), fun h => by omega⟩
        case measure => simp [intOf]; omega
      · have HS := Lib.hid (Lfc.chainO_snoc Lfc.arrR n ns (by intro e; subst e; simp at hkn; omega))
        have HR : Hid (Lfc.chainO Lfc.arrL (ns ++ [n]).reverse = Lfc.nmO n :: Lfc.nmO Lfc.arrL :: Lfc.chainO Lfc.arrL ns.reverse) := Lib.hid (by
          rw [List.reverse_append]
          exact Lfc.chainO_cons Lfc.arrL n ns.reverse (by intro e; have := List.reverse_eq_nil_iff.1 e; subst this; simp at hkn; omega))
        have hls : (Lfc.chainO Lfc.arrR ns).length ≤ 60 := by rw [Lfc.chainO_len]; omega
        have hlb : (Lfc.chainO Lfc.arrL ns.reverse).length ≤ 60 := by rw [Lfc.chainO_len, List.length_reverse]; omega
        have hlp : 0 < (Lfc.chainO Lfc.arrL ns.reverse).length := by rw [Lfc.chainO_len, List.length_reverse]; omega
        generalize Lfc.chainO Lfc.arrR ns = sr at *
        generalize Lfc.chainO Lfc.arrL ns.reverse = br at *
        have hd3 : decide ((k : Int) > 0) = true := by simp; omega
        clear hk0
        go_wp2_with fail
        refine (name_any3 [45, 62] _).mono ?_
        rintro e w4 ⟨rfl, b4⟩
        obtain ⟨w5, hw5, b5, q5, s5, hc5, ho5⟩ := lay5 w4 [45, 62]
        have J5 := Lib.hid ((J3.out.new b4).new b5)
        have HC5 := Lib.hid hc5
        clear b4 b5 q5 ho5 hc5
        have hsz5 : w.heap.size ≤ w5.heap.size := J5.out.rows.bel.size
        go_wp2_with (at_builtin; refine wpList_append_own_at _ rfl _ _ 27 rfl w.heap.size 37 it (.agg #[.int .i64 0, S [], .int .i64 0, .slice none 0 0, .bool false]) 5 64 Try.underlying27 hi hz0 hz1 hz2 rfl (by decide) _ sr.length (nCells sr) rfl J5.out.rows.own ⟨w4.heap.size, 0, none⟩ 1 1 (nC [45, 62]) rfl rfl HC5.out (nC_one _) (by unfold maxLen; omega) (by omega) hsz5 ?_)
        intro v6 w6 hown6 hg6 _ hloc6
        have J6 := Lib.hid (J5.out.pushS hg6 hown6 hloc6)
        clear hown6 hg6 hloc6 hw5
        go_wp2_with fail
        refine (name_any3 [60, 45] _).mono ?_
        rintro e w7 ⟨rfl, b7⟩
        obtain ⟨w8, hw8, b8, q8, s8, hc8, ho8⟩ := lay5 w7 [60, 45]
        have J7 := Lib.hid (J6.out.new b7)
        have hsz7 : w.heap.size ≤ w7.heap.size := J7.out.rows.bel.size
        have HO8 := Lib.hid (ho8 w.heap.size hsz7)
        obtain ⟨ad, cb, rfl, hsrc⟩ := back_src J7.out.rows.back hlp
        have HSR := Lib.hid (hsrc w8 b8)
        have B8 := Lib.hid b8
        clear b7 b8 q8 hc8 ho8 hsrc
        have hsz8 : w.heap.size ≤ w8.heap.size := by omega
        go_wp2_with (at_builtin; refine wpList_append_own_at _ rfl _ _ 27 rfl w.heap.size 37 it (.agg #[.int .i64 0, S [], .int .i64 0, .slice none 0 0, .bool false]) 5 64 Try.underlying27 hi hz0 hz1 hz2 rfl (by decide) _ 1 (nC [60, 45]) rfl HO8.out ad br.length cb (nCells br) rfl (nCells_len br) HSR.out (nCells_one _) (by unfold maxLen; omega) (by omega) hsz8 ?_)
        intro v9 w9 hown9 hg9 _ hloc9
        have J9 := Lib.hid (J7.out.pushB B8.out (Nat.le_refl _) (by omega) hg9 hown9 hloc9)
        clear hown9 hg9 hloc9 hw8
        obtain ⟨w10, hw10, b10, q10, s10, hc10, ho10⟩ := lay5 w9 n
        obtain ⟨y0, y1, y2, y3, y4⟩ := box5 J9.out.box
        have J10 := Lib.hid (J9.out.new b10)
        have HC10 := Lib.hid hc10
        clear b10 q10 ho10 hc10
        have hsz10 : w.heap.size ≤ w10.heap.size := J10.out.rows.bel.size
        have hl1 : (sr ++ [Lfc.nmO [45, 62]]).length ≤ 61 := by simp; omega
        obtain ⟨sr1, hsr1⟩ : ∃ sr1, sr ++ [Lfc.nmO [45, 62]] = sr1 := ⟨_, rfl⟩
        obtain ⟨br1, hbr1⟩ : ∃ br1, Lfc.nmO [60, 45] :: br = br1 := ⟨_, rfl⟩
        rw [hsr1, hbr1] at J10
        rw [hsr1] at hl1
        have hl2 : br1.length ≤ 61 := by rw [← hbr1]; simp; omega
        have hl3 : 0 < br1.length := by rw [← hbr1]; simp
        have HR1 := Lib.hid hsr1
        have HR2 := Lib.hid hbr1
        clear hsr1 hbr1
        go_wp2_with (at_builtin; refine wpList_append_own_at _ rfl _ _ 27 rfl w.heap.size 37 it (.agg #[.int .i64 0, S [], .int .i64 0, .slice none 0 0, .bool false]) 5 64 Try.underlying27 hi hz0 hz1 hz2 rfl (by decide) _ sr1.length (nCells sr1) rfl J10.out.rows.own ⟨w9.heap.size, 0, none⟩ 1 1 (nC n) rfl rfl HC10.out (nC_one _) (by unfold maxLen; omega) (by omega) hsz10 ?_)
        intro v11 w11 hown11 hg11 _ hloc11
        have J11 := Lib.hid (J10.out.pushS hg11 hown11 hloc11)
        clear hown11 hg11 hloc11 hw10 y0 y1 y2 y3 y4
        obtain ⟨w12, hw12, b12, q12, s12, hc12, ho12⟩ := lay5 w11 n
        obtain ⟨y0, y1, y2, y3, y4⟩ := box5 J11.out.box
        have hsz11 : w.heap.size ≤ w11.heap.size := J11.out.rows.bel.size
        have HO12 := Lib.hid (ho12 w.heap.size hsz11)
        obtain ⟨ad2, cb2, rfl, hsrc⟩ := back_src J11.out.rows.back hl3
        have HSR2 := Lib.hid (hsrc w12 b12)
        have B12 := Lib.hid b12
        clear b12 q12 hc12 ho12 hsrc
        have hsz12 : w.heap.size ≤ w12.heap.size := by omega
        go_wp2_with (at_builtin; refine wpList_append_own_at _ rfl _ _ 27 rfl w.heap.size 37 it (.agg #[.int .i64 0, S [], .int .i64 0, .slice none 0 0, .bool false]) 5 64 Try.underlying27 hi hz0 hz1 hz2 rfl (by decide) _ 1 (nC n) rfl HO12.out ad2 br1.length cb2 (nCells br1) rfl (nCells_len br1) HSR2.out (nCells_one _) (by unfold maxLen; omega) (by omega) hsz12 ?_)
        intro v13 w13 hown13 hg13 _ hloc13
        have J13 := Lib.hid (J11.out.pushB B12.out (Nat.le_refl _) (by omega) hg13 hown13 hloc13)
        clear hown13 hg13 hloc13 hw12 y0 y1 y2 y3 y4
        go_wp2_with fail
        go_roundw
        case rel =>
          refine ⟨k + 1, ns ++ [n], by omega, by omega, by go_num, by simp; omega, Lib.hid ?_, Lib.hid (fun y hy => ?_), fun h => by omega⟩
          · have h := J13.out.rows
            rw [← HR1.out, ← HR2.out] at h
            rw [HS.out, HR.out]
            exact h
          · rcases List.mem_append.1 hy with hy | hy
            · exact HN.out y hy
            · simp at hy; subst hy; exact HP.out
        case measure => simp [intOf]; omega
    · have hex : decide (k < zs.length) = false ∨ (decide (k < zs.length) = true ∧ decide ((k : Int) < 30) = false) := by
        by_cases h1 : k < zs.length
        · exact .inr ⟨by simp; omega, by simp; omega⟩
        · exact .inl (by simp; omega)
      rcases ns with _ | ⟨z, r⟩
      · obtain ⟨rfl, rfl⟩ := hk0 (by simp at hkn; omega)
        rcases hex with hd1 | ⟨hd1, hd2⟩
        · go_wp2_with fail
          refine (awake3_any _).mono ?_
          rintro e w2 ⟨rfl, b2⟩
          go_wp2_with fail
          go_ret
          exact ⟨rfl, HI.out.bel.trans (b2.mono HI.out.bel.size)⟩
        · go_wp2_with fail
          refine (awake3_any _).mono ?_
          rintro e w2 ⟨rfl, b2⟩
          go_wp2_with fail
          go_ret
          exact ⟨rfl, HI.out.bel.trans (b2.mono HI.out.bel.size)⟩
      clear hk0
      have hrl : r.length ≤ 29 := by simp at hkn; omega
      have hp : ∀ x ∈ z :: r, Lfc.Plain x := fun x hx => (HN.out x hx).1
      have HN1 := Lib.hid (names_chain (a := Lfc.arrR) (by simp [Lfc.arrR]) HN.out)
      have HN2 := Lib.hid (names_chain (a := Lfc.arrL) (ns := (z :: r).reverse) (by simp [Lfc.arrL]) (fun x hx => HN.out x (List.mem_reverse.1 hx)))
      have HR1 := Lib.hid (Lfc.resolved_R (z :: r) z r rfl hp (by simp; omega))
      have HR2 := Lib.hid (Lfc.resolved_L (z :: r) z r rfl hp (by simp; omega))
      have HL1 := eq2 (show (Lfc.chainO Lfc.arrR (z :: r)).length = 2 * r.length + 1 by rw [Lfc.chainO_len]; simp; omega)
      have HL2 := eq2 (show (Lfc.chainO Lfc.arrL (z :: r).reverse).length = 2 * r.length + 1 by rw [Lfc.chainO_len]; simp; omega)
      have hws1 := Lfc.wsum_nm (Lfc.chainO Lfc.arrR (z :: r)) (fun x hx => Lfc.chainO_nm _ _ x hx)
      have hws2 := Lfc.wsum_nm (Lfc.chainO Lfc.arrL (z :: r).reverse) (fun x hx => Lfc.chainO_nm _ _ x hx)
      have hws1 : Lfc.wsum (Lfc.chainO Lfc.arrR (z :: r)) ≤ 100000000 := by omega
      have hws2 : Lfc.wsum (Lfc.chainO Lfc.arrL (z :: r).reverse) ≤ 100000000 := by omega
      generalize hsr : Lfc.chainO Lfc.arrR (z :: r) = sr at *
      have HSR := Lib.hid hsr
      clear hsr
      generalize Lfc.chainO Lfc.arrL (z :: r).reverse = br at *
      obtain ⟨As, cs, rfl, hcs⟩ := own_cap HI.out.own
      obtain ⟨Ab, cb, rfl, hcb⟩ := own_cap HI.out.back
      have HS := Lib.hid (OpdsAt.of_own HN1.out HI.out.own)
      have HB := Lib.hid (OpdsAt.of_own HN2.out HI.out.back)
      have C1 := Lib.hid (resolve_any [] sr none As 0 cs wr (by simp) (by omega) hcs hws1 (ops_nil _) HS.out)
      have C2 := Lib.hid (fun W (hb : Below wr.heap.size wr W) => resolve_any [] br none Ab 0 cb W (by simp) (by omega) hcb hws2 (ops_nil _) (HB.out.below hb))
      rw [HR1.out] at C1
      rw [HR2.out] at C2
      have hd3 : ((sr.length : Int) == 0) = false := by simpa using (by omega : ¬ (sr.length : Int) = 0)
      have HT := Lib.hid (Lfc.arrows_form r z (hp z List.mem_cons_self) (fun x hx => hp x (List.mem_cons_of_mem _ hx)))
      have hsz : (Lfc.arrowsT z r).size ≤ 1000000000 := by rw [HT.out.2.1]; omega
      have HSM := Lib.hid (Lfc.sames_refl false r z)
      clear hp hws1 hws2
      rcases hex with hd1 | ⟨hd1, hd2⟩
      all_goals
        go_upto_region 13 with fail
        go_wp2_with fail
        refine C1.out.mono ?_
        rintro e w1 ⟨⟨v1, rfl, hv1⟩, b1⟩
        obtain ⟨k1, n1, p1, us1, A1, c1, e1, rfl⟩ := TreeV.node3 hv1
        obtain ⟨w2, hw2⟩ : ∃ w2, w1.alloc (.cells #[.int .i64 k1, S n1, .int .i64 p1, .slice A1 us1.length c1] 32) = w2 := ⟨_, rfl⟩
        have b2 : Below w1.heap.size w1 w2 := by rw [← hw2]; exact (Below.refl _ _).alloc (Nat.le_refl _) _
        have q2 : w2.heap[w1.heap.size]? = some (.cells #[.int .i64 k1, S n1, .int .i64 p1, .slice A1 us1.length c1] 32 (0, 0)) := by rw [← hw2]; exact heap_alloc_new _ _
        have B2 := Lib.hid (b1.trans (b2.mono b1.size))
        have B12 := Lib.hid b2
        have B1 := Lib.hid b1
        have HV1 := Lib.hid hv1
        have HV2 := Lib.hid (hv1.below b2)
        have Q2 := Lib.hid q2
        have HW2 := Lib.hid hw2
        have E1 := Lib.hid e1
        clear hv1 b1 b2 q2 hw2 e1
        go_upto_region 14 with fail
        rw [HW2.out]
        go_wp2_with fail
        refine (C2.out _ B2.out).mono ?_
        rintro e w3 ⟨⟨v3, rfl, hv3⟩, b3⟩
        obtain ⟨k3, n3, p3, us3, A3, c3, e3, rfl⟩ := TreeV.node3 hv3
        obtain ⟨w4, hw4⟩ : ∃ w4, w3.alloc (.cells #[.int .i64 k3, S n3, .int .i64 p3, .slice A3 us3.length c3] 32) = w4 := ⟨_, rfl⟩
        have b4 : Below w3.heap.size w3 w4 := by rw [← hw4]; exact (Below.refl _ _).alloc (Nat.le_refl _) _
        have q4 : w4.heap[w3.heap.size]? = some (.cells #[.int .i64 k3, S n3, .int .i64 p3, .slice A3 us3.length c3] 32 (0, 0)) := by rw [← hw4]; exact heap_alloc_new _ _
        have b24 := b3.trans (b4.mono b3.size)
        have B24 := Lib.hid b24
        have B4 := Lib.hid (B2.out.trans (b24.mono B2.out.size))
        have HV4 := Lib.hid (HV2.out.below b24)
        have Q24 := Lib.hid ((b24.block _ (lt_of_block Q2.out)).trans Q2.out)
        obtain ⟨x0, x1, x2, x3⟩ := cells4 Q24.out
        obtain ⟨y0, y1, y2, y3⟩ := cells4 q4
        have HW4 := Lib.hid hw4
        have CS := Lib.hid (rSame_any false _ _ _ _ w4 hsz HV4.out (hv3.below b4))
        rw [HSM.out] at CS
        clear hv3 b3 b4 q4 hw4 e3 b24
        go_upto_region 15 with fail
        rw [HW4.out]
        go_wp2_with fail
        refine CS.out.mono ?_
        rintro e w5 ⟨rfl, b5⟩
        clear x0 x1 x2 x3 y0 y1 y2 y3
        have q5 := (b5.block _ (lt_of_block Q24.out)).trans Q24.out
        have L0 : Hid (ArrL w1 z r k1 p1 n1 us1 A1 c1 w5) := Lib.hid ⟨B12.out.trans ((B24.out.trans (b5.mono B24.out.size)).mono B12.out.size), q5, E1.out, HV1.out⟩
        have HS1 := Lib.hid (HS.out.below B1.out)
        have HO1 := Lib.hid (own_below HI.out.own B1.out)
        have HBW := Lib.hid (HI.out.bel.trans (B1.out.mono HI.out.bel.size))
        clear b5 q5 HV2 HV4 Q2 Q24 B2 B4 CS C1 C2 HW2 HW4 E1 B24 HS HB HI B1
        go_wp2_with fail
        go_loopw [11] (fun i wq => ∃ (j : Nat) (z' : List UInt8) (r' : List (List UInt8)) (k' p' : Int) (n' : List UInt8) (us' : List Lfc.Raw) (A' : Option Addr) (c' : Nat), i = .int .i64 j ∧ j ≤ r.length ∧ Hid ((z :: r).drop j = z' :: r') ∧ Hid (ArrL w1 z' r' k' p' n' us' A' c' wq)) (fun i _ => r.length - (intOf i).toNat)
        case atStart => exact ⟨0, z, r, k1, p1, n1, us1, A1, c1, rfl, Nat.zero_le _, Lib.hid rfl, L0⟩
        case round =>
          obtain ⟨j, z', r', k', p', n', us', A', c', rfl, hj, HD, HL⟩ := hrel
          have hdl : r'.length = r.length - j := by
            have := congrArg List.length HD.out
            simp at this; omega
          by_cases hlt : j < r.length
          · rcases r' with _ | ⟨y, r''⟩
            · simp at hdl; omega
            clear hdl
            obtain ⟨rfl, rfl, rfl, rfl⟩ : k' = 6 ∧ n' = [] ∧ p' = 0 ∧ us' = [Lfc.nmT z', Lfc.arrowsT y r''] := by
              have := HL.out.eq
              simp only [Lfc.arrowsT, Lfc.arrowT, Lfc.Raw.node.injEq] at this
              exact ⟨this.1.symm, this.2.1.symm, this.2.2.1.symm, this.2.2.2.symm⟩
            obtain ⟨A'', c'', hv, _, hts⟩ := (show TreeV w1 (.node 6 [] 0 [Lfc.nmT z', Lfc.arrowsT y r'']) _ from HL.out.tree).open_
            cases hv
            obtain ⟨x0, x1, x2, x3⟩ := cells4 HL.out.box
            have hc1 : (j : Int) < (sr.length : Int) / 2 := by omega
            have h2j : 2 * j < sr.length := by omega
            have hsj : sr[2 * j].tree = Lfc.nmT z' := by
              have h1 := Lfc.chainO_get Lfc.arrR j z r z' (y :: r'') HD.out
              rw [HSR.out, List.getElem?_eq_getElem h2j] at h1
              rw [Option.some.inj h1]; rfl
            obtain ⟨b0, o0, k0, m0, p0, us0, B0, c0, hA0, hb0, e0, f0, f1, f2, f3, _, _, ht0⟩ := hts.at_ (i := 0) (by simp)
            obtain ⟨b9, o9, k9, m9, p9, us9, B9, c9, hA9, hb9, e9, g0, g1, g2, g3, _, _, ht9⟩ := hts.at_ (i := 1) (by simp)
            obtain ⟨bs, os, ks, ms, ps, uss, Bs, ccs, hAs, hbs, es, i0, i1, i2, i3, i4, hts0⟩ := HS1.out.at_ h2j
            obtain rfl := hAs
            obtain rfl := hA0
            cases hA9
            have CQ : Hid (∀ W, Below w1.heap.size w1 W → Calls Try.prog 8 #[.agg #[.int .i64 k0, S m0, .int .i64 p0, .slice B0 us0.length c0], .agg #[.int .i64 ks, S ms, .int .i64 ps, .slice Bs uss.length ccs], .bool true] W fun e w' => e = .returned (.bool true) ∧ Below W.heap.size W w') := Lib.hid (fun W hb => by
              have hx : TreeV w1 (Lfc.nmT z') (.agg #[.int .i64 ks, S ms, .int .i64 ps, .slice Bs uss.length ccs]) := by rw [← hsj, es]; exact hts0
              have h := rSame_any true (Lfc.nmT z') (Lfc.nmT z') _ _ W (by simp [Lfc.nmT, Lfc.Raw.size, Lfc.Raw.sizes]) (ht0.below hb) (hx.below hb)
              rw [show Lfc.Raw.same true (Lfc.nmT z') (Lfc.nmT z') = true from Lfc.sames_refl true [] z'] at h
              exact h)
            have up : ∀ W, Below wr.heap.size wr W → Below w1.heap.size w1 W := fun W hb => HL.out.bel.trans (hb.mono HL.out.bel.size)
            have CR := Lib.hid (fun W hb => CQ.out W (up W hb))
            have SC : Hid (∀ W, Below wr.heap.size wr W → (W.cell? ⟨w1.heap.size, 0, none⟩ = some (.int .i64 6) ∧ W.cell? ⟨w1.heap.size, 3, none⟩ = some (.slice (some ⟨b0, o0, none⟩) 2 c')) ∧ (W.cell? ⟨b0, o0, none⟩ = some (.int .i64 k0) ∧ W.cell? ⟨b0, o0 + 1, none⟩ = some (S m0) ∧ W.cell? ⟨b0, o0 + 2, none⟩ = some (.int .i64 p0) ∧ W.cell? ⟨b0, o0 + 3, none⟩ = some (.slice B0 us0.length c0)) ∧ (W.cell? ⟨bs, os + 2 * j * 5, none⟩ = some (.int .i64 ks) ∧ W.cell? ⟨bs, os + 2 * j * 5 + 1, none⟩ = some (S ms) ∧ W.cell? ⟨bs, os + 2 * j * 5 + 2, none⟩ = some (.int .i64 ps) ∧ W.cell? ⟨bs, os + 2 * j * 5 + 3, none⟩ = some (.slice Bs uss.length ccs))) := Lib.hid (fun W hb => by
              have hB := up W hb
              obtain ⟨q0, _, _, q3⟩ := cells4 ((hb.block _ (lt_of_block HL.out.box)).trans HL.out.box)
              exact ⟨⟨q0, q3⟩, ⟨(hB.cell (p := ⟨b0, _, none⟩) hb0).trans f0, (hB.cell (p := ⟨b0, _, none⟩) hb0).trans f1, (hB.cell (p := ⟨b0, _, none⟩) hb0).trans f2, (hB.cell (p := ⟨b0, _, none⟩) hb0).trans f3⟩, (hB.cell (p := ⟨bs, _, none⟩) hbs).trans i0, (hB.cell (p := ⟨bs, _, none⟩) hbs).trans i1, (hB.cell (p := ⟨bs, _, none⟩) hbs).trans i2, (hB.cell (p := ⟨bs, _, none⟩) hbs).trans i3⟩)
            have G0 : Below wr.heap.size wr wr.drew := (Below.refl _ _).drew
            have aa : ∀ W W', Below wr.heap.size wr W → Below W.heap.size W W' → Below wr.heap.size wr W' := fun W W' h h' => h.trans (h'.mono h.size)
            have GN : Hid (∀ W, Below wr.heap.size wr W → W.heap[w1.heap.size]? = some (.cells #[.int .i64 6, S [], .int .i64 0, .slice (some ⟨b0, o0, none⟩) 2 c'] 32 (0, 0)) ∧ (W.cell? ⟨b0, o0 + 4, none⟩ = some (.int .i64 k9) ∧ W.cell? ⟨b0, o0 + 5, none⟩ = some (S m9) ∧ W.cell? ⟨b0, o0 + 6, none⟩ = some (.int .i64 p9) ∧ W.cell? ⟨b0, o0 + 7, none⟩ = some (.slice B9 us9.length c9))) := Lib.hid (fun W hb => by
              have hB := up W hb
              exact ⟨(hb.block _ (lt_of_block HL.out.box)).trans HL.out.box, (hB.cell (p := ⟨b0, _, none⟩) hb0).trans g0, (hB.cell (p := ⟨b0, _, none⟩) hb0).trans g1, (hB.cell (p := ⟨b0, _, none⟩) hb0).trans g2, (hB.cell (p := ⟨b0, _, none⟩) hb0).trans g3⟩)
            have HB1 := Lib.hid HL.out.bel
            have hbl1 := lt_of_block HL.out.box
            have HT9 : Hid (TreeV w1 (Lfc.arrowsT y r'') (.agg #[.int .i64 k9, S m9, .int .i64 p9, .slice B9 us9.length c9])) := Lib.hid ht9
            have E9 : Hid (Lfc.arrowsT y r'' = .node k9 m9 p9 us9) := Lib.hid e9
            have HD' : Hid ((z :: r).drop (j + 1) = y :: r'') := Lib.hid (by rw [← List.drop_drop, HD.out]; rfl)
            have hw2j : IntKind.i64.wrap (2 * (j : Int)) = 2 * j := IntWalk.i64_in _ (by omega)
            have hw2k : (2 * (j : Int)).toNat = 2 * j := by omega
            have hw2l : (0 : Int) ≤ 2 * (j : Int) := by omega
            have hw2m : 2 * (j : Int) < (sr.length : Int) := by omega
            clear f0 f1 f2 f3 g0 g1 g2 g3 i0 i1 i2 i3 i4 x0 x1 x2 x3 ht0 ht9 hts hts0 e0 e9 es hsj HL HD CQ
            go_upto_region 20 with fail
            go_region_held3 (fun W => (W.cell? ⟨w1.heap.size, 0, none⟩ = some (.int .i64 6) ∧ W.cell? ⟨w1.heap.size, 3, none⟩ = some (.slice (some ⟨b0, o0, none⟩) 2 c')) ∧ (W.cell? ⟨b0, o0, none⟩ = some (.int .i64 k0) ∧ W.cell? ⟨b0, o0 + 1, none⟩ = some (S m0) ∧ W.cell? ⟨b0, o0 + 2, none⟩ = some (.int .i64 p0) ∧ W.cell? ⟨b0, o0 + 3, none⟩ = some (.slice B0 us0.length c0)) ∧ (W.cell? ⟨bs, os + 2 * j * 5, none⟩ = some (.int .i64 ks) ∧ W.cell? ⟨bs, os + 2 * j * 5 + 1, none⟩ = some (S ms) ∧ W.cell? ⟨bs, os + 2 * j * 5 + 2, none⟩ = some (.int .i64 ps) ∧ W.cell? ⟨bs, os + 2 * j * 5 + 3, none⟩ = some (.slice Bs uss.length ccs)))
              (first | exact SC.out _ G0 | (refine SC.out _ ?_; assumption))
              (first
                | (go_at_call 8; ((with_reducible refine (CR.out _ ?_).mono ?_)); assumption; rintro e w6 ⟨rfl, hb6'⟩; have hb6 := aa _ _ (by assumption) hb6'))
            all_goals
              clear hw2j hw2k hw2l hw2m
              obtain ⟨hbx, z0, z1, z2, z3⟩ := GN.out _ hb6
              obtain ⟨s1, s2, s3, s4, t1, t2, t3, t4, ⟨y0, y1, y2, y3⟩, ⟨f0, f1, f2, f3⟩, hq, ho⟩ := put4 hbx (.int .i64 k9) (S m9) (.int .i64 p9) (.slice B9 us9.length c9)
              obtain ⟨_, _, _, x3⟩ := cells4 hbx
              have L1 : Hid (ArrL w1 y r'' k9 p9 m9 us9 B9 c9 s4) := Lib.hid ⟨Oth.below (HB1.out.trans (hb6.mono HB1.out.size)) ho (Nat.le_refl _) (Nat.le_trans HB1.out.size hb6.size), hq, E9.out, by rw [E9.out]; have := HT9.out; rw [E9.out] at this; exact this⟩
              clear hq ho hbx hb6 hb6'
              go_wp2_with fail
              go_roundw
              case rel => exact ⟨j + 1, y, r'', k9, p9, m9, us9, B9, c9, by go_num, by omega, HD', L1⟩
              case measure => simp [intOf]; omega
          · obtain rfl : j = r.length := by omega
            have hc1 : (sr.length : Int) / 2 ≤ (r.length : Int) := by omega
            have HBR := Lib.hid (HBW.out.trans (HL.out.bel.mono HBW.out.size))
            have HB1 := Lib.hid HL.out.bel
            clear HL HD hdl
            by_cases hr2 : 2 ≤ r.length
            · have hq3 : 3 < (sr.length : Int) := by omega
              have hq1 : 1 < sr.length := by omega
              have HRM : Hid (Lfc.resolved [] (sr.set 1 (Lfc.nmO Lfc.arrL)) = (Lfc.rawZ, 22)) := Lib.hid (by
                rcases r with _ | ⟨y, _ | ⟨y2, r3⟩⟩
                · simp at hr2
                · simp at hr2
                · rw [← HSR.out]; exact Lfc.resolved_mixed z y (y2 :: r3) (fun x hx => (HN.out x hx).1) (by simp))
              obtain ⟨g, cap, cur, hv, hbg, hg, _⟩ : ∃ g cap cur, (.slice As sr.length cs : Value) = .slice (some ⟨g, 0, none⟩) sr.length cap ∧ w.heap.size ≤ g ∧ w1.heap[g]? = some (.cells cur 37 (0, 0)) ∧ True := by
                rcases HO1.out.2 with ⟨_, h0⟩ | ⟨g, cap, cur, hv, hbg, hg, _⟩
                · omega
                · exact ⟨g, cap, cur, hv, hbg, hg, trivial⟩
              injection hv with ev1 _ ev3
              subst ev1 ev3
              have HCA := Lib.hid (own_cells HO1.out)
              have HG := Lib.hid hg
              have hws3 : Lfc.wsum (sr.set 1 (Lfc.nmO Lfc.arrL)) ≤ 100000000 := by
                have := Lfc.wsum_nm (sr.set 1 (Lfc.nmO Lfc.arrL)) (fun x hx => by obtain ⟨n, hn, _⟩ := names_set1 HN1.out Lfc.arrL (by simp [Lfc.arrL]) x hx; exact ⟨n, hn⟩)
                rw [this, List.length_set]; omega
              have CM : Hid (∀ W, g < W.heap.size → CellsAt W g 0 (nCells (sr.set 1 (Lfc.nmO Lfc.arrL))) → Calls Try.prog 7 #[.slice none 0 0, .slice (some ⟨g, 0, none⟩) sr.length cs] W fun e w' => (∃ v, e = .returned (.tuple #[v, .int .i64 22]) ∧ TreeV w' Lfc.rawZ v) ∧ Below W.heap.size W w') := Lib.hid (fun W hlt hc => by
                have h := resolve_any [] (sr.set 1 (Lfc.nmO Lfc.arrL)) none (some ⟨g, 0, none⟩) 0 cs W (by simp) (by rw [List.length_set]; omega) (by rw [List.length_set]; exact hcs) hws3 (ops_nil _) (OpdsAt.of_cells (names_set1 HN1.out Lfc.arrL (by simp [Lfc.arrL])) hlt hc)
                rw [HRM.out, List.length_set] at h
                exact h)
              have hxl : 9 < (nCells sr).length := by rw [nCells_len]; omega
              clear hg hws3
              go_wp2_with fail
              refine (name_any3 [60, 45] _).mono ?_
              rintro e w6 ⟨rfl, b6⟩
              have b16 := HB1.out.trans (b6.mono HB1.out.size)
              have hgl := lt_of_block HG.out
              obtain ⟨s1, s2, s3, s4, s5, a0, a1, a2, a3, a4, t1, t2, t3, t4, t5, ⟨y0, y1, y2, y3, y4⟩, ⟨f0, f1, f2, f3, f4⟩, hca, ho⟩ := put5one ((b16.block g hgl).trans HG.out) (fun j u hj => (b16.cell (p := ⟨g, _, none⟩) hgl).trans (HCA.out j u hj)) hxl (.int .i64 1) (S [60, 45]) (.int .i64 0) (.slice none 0 0) (.bool false)
              have hca' : CellsAt s5 g 0 (nCells (sr.set 1 (Lfc.nmO Lfc.arrL))) := by rw [nCells_set1 sr Lfc.arrL hq1]; exact hca
              have hgs5 : g < s5.heap.size := Nat.lt_of_lt_of_le (Nat.lt_of_lt_of_le hgl b16.size) ho.size
              have C5 := Lib.hid (CM.out s5 hgs5 hca')
              have hBR6 := HBR.out.trans (b6.mono HBR.out.size)
              have HB5 := Lib.hid (Oth.below hBR6 ho hbg hBR6.size)
              clear hca hca' ho b6 b16 hBR6 hgs5 hgl
              go_wp2_with fail
              refine C5.out.mono ?_
              rintro e w7 ⟨⟨v7, rfl, hv7⟩, b7⟩
              obtain ⟨k7, n7, p7, us7, A7, c7, e7, rfl⟩ := TreeV.node3 hv7
              obtain ⟨w8, hw8⟩ : ∃ w8, w7.alloc (.cells #[.int .i64 k7, S n7, .int .i64 p7, .slice A7 us7.length c7] 32) = w8 := ⟨_, rfl⟩
              have b8 : Below w7.heap.size w7 w8 := by rw [← hw8]; exact (Below.refl _ _).alloc (Nat.le_refl _) _
              have B8 := Lib.hid ((HB5.out.trans (b7.mono HB5.out.size)).trans (b8.mono (HB5.out.trans (b7.mono HB5.out.size)).size))
              have HW8 := Lib.hid hw8
              clear hv7 b7 b8 hw8 e7
              go_upto_region 26 with fail
              rw [HW8.out]
              go_wp2_with fail
              refine (awake3_any _).mono ?_
              rintro e w9 ⟨rfl, b9⟩
              go_wp2_with fail
              go_ret
              exact ⟨rfl, B8.out.trans (b9.mono B8.out.size)⟩
            · have hq3 : (sr.length : Int) ≤ 3 := by omega
              go_wp2_with fail
              refine (awake3_any _).mono ?_
              rintro e w9 ⟨rfl, b9⟩
              go_wp2_with fail
              go_ret
              exact ⟨rfl, HBR.out.trans (b9.mono HBR.out.size)⟩
end Go.Proofs.Ytkhfnkokdmoipaa
