/- Parts of the proof: OpArrP, OpArrM, OpLevP, OpLevM, OpMade, OpMade2. -/
import Derived.Test.YtkhfnkokdmoipaaDoorOpM4
import Derived.Test.YtkhfnkokdmoipaaDoorRawMade
import Derived.Deep.DrawnRows
/- Chains of arrows: what they resolve to. No program in sight. -/
set_option linter.unusedVariables false
set_option linter.unusedSimpArgs false
namespace Lfc
def nmT (n : List UInt8) : Raw := .node 1 n 0 []
def nmO (n : List UInt8) : Opd := ⟨nmT n, false⟩
def alts (a : List UInt8) (r : List (List UInt8)) : List Opd := r.flatMap fun y => [nmO a, nmO y]
def alt (a : List UInt8) (z : List UInt8) (r : List (List UInt8)) : List Opd := nmO z :: alts a r
def odds : Nat → Nat → List Nat
  | _, 0 => []
  | b, n + 1 => b :: odds (b + 2) n
def arrowT (a b : Raw) : Raw := .node 6 [] 0 [a, b]
def arrowsT : List UInt8 → List (List UInt8) → Raw
  | z, [] => nmT z
  | z, y :: r => arrowT (nmT z) (arrowsT y r)
/-- A name that is no arrow. -/
def Plain (n : List UInt8) : Prop := isName n = true ∧ n ≠ arrR ∧ n ≠ arrL
theorem alts_cons (a y : List UInt8) (r : List (List UInt8)) : alts a (y :: r) = nmO a :: nmO y :: alts a r := rfl
theorem alts_len (a : List UInt8) : ∀ r, (alts a r).length = 2 * r.length
  | [] => rfl
  | y :: r => by rw [alts_cons, List.length_cons, List.length_cons, List.length_cons, alts_len a r]; omega
theorem alts_app (a : List UInt8) (r r' : List (List UInt8)) : alts a (r ++ r') = alts a r ++ alts a r' := by simp [alts]
theorem op_plain {n : List UInt8} (h : Plain n) : opOf [] (nmO n) = none := by
  unfold opOf
  rw [if_neg (by simp [nmO, nmT, Raw.kind])]
  show look [] n = none
  unfold look
  rw [if_neg h.2.1, if_neg h.2.2]; rfl
theorem op_R : opOf [] (nmO arrR) = some ⟨[], 5, -1⟩ := rfl
theorem op_L : opOf [] (nmO arrL) = some ⟨[], 4, -1⟩ := rfl
theorem lowN_alts (a : List UInt8) (f : Int) (ha : opOf [] (nmO a) = some ⟨[], f, -1⟩) : ∀ (r : List (List UInt8)) (at_ : List Nat) (i : Nat), (∀ y ∈ r, Plain y) → at_.length ≠ 0 → lowN [] ⟨at_, ⟨[], f, -1⟩, true⟩ i (alts a r) = ⟨at_ ++ odds i r.length, ⟨[], f, -1⟩, true⟩
  | [], at_, i, _, _ => by simp [alts, lowN, odds]
  | y :: r, at_, i, hy, hne => by
    rw [alts_cons, lowN, lowN, ha, op_plain (hy y List.mem_cons_self)]
    have e1 : lowStep ⟨at_, ⟨[], f, -1⟩, true⟩ i (some ⟨[], f, -1⟩) = ⟨at_ ++ [i], ⟨[], f, -1⟩, true⟩ := by
      unfold lowStep
      simp [hne]
    rw [e1]
    have e2 : lowStep ⟨at_ ++ [i], ⟨[], f, -1⟩, true⟩ (i + 1) none = ⟨at_ ++ [i], ⟨[], f, -1⟩, true⟩ := rfl
    rw [e2, lowN_alts a f ha r (at_ ++ [i]) (i + 1 + 1) (fun z hz => hy z (List.mem_cons_of_mem _ hz)) (by simp)]
    simp [odds]
theorem low_alt (a : List UInt8) (f : Int) (ha : opOf [] (nmO a) = some ⟨[], f, -1⟩) (z : List UInt8) (hz : Plain z) (y : List UInt8) (r : List (List UInt8)) (hr : ∀ x ∈ y :: r, Plain x) : low [] (alt a z (y :: r)) = ⟨odds 1 (y :: r).length, ⟨[], f, -1⟩, true⟩ := by
  unfold low alt
  rw [lowN, op_plain hz, alts_cons, lowN, ha, lowN, op_plain (hr y List.mem_cons_self)]
  have e1 : lowStep (lowStep lowZ 0 none) (0 + 1) (some ⟨[], f, -1⟩) = ⟨[1], ⟨[], f, -1⟩, true⟩ := by
    show lowStep lowZ 1 (some ⟨[], f, -1⟩) = _
    unfold lowStep lowZ
    simp
  rw [e1]
  have e2 : lowStep ⟨[1], ⟨[], f, -1⟩, true⟩ (0 + 1 + 1) none = ⟨[1], ⟨[], f, -1⟩, true⟩ := rfl
  rw [e2, lowN_alts a f ha r [1] _ (fun x hx => hr x (List.mem_cons_of_mem _ hx)) (by simp)]
  simp [odds]
theorem segs_alt (a : List UInt8) (s : List Opd) : ∀ (r : List (List UInt8)) (z : List UInt8) (b : Nat), s.drop b = alt a z r → segs s b (odds (b + 1) r.length ++ [s.length]) = [nmO z] :: r.map (fun y => [nmO y])
  | [], z, b, h => by
    simp only [List.length_nil, odds, List.nil_append, segs, List.take_length, List.map_nil, h]
    rfl
  | y :: r, z, b, h => by
    have hd : s.drop (b + 2) = alt a y r := by
      rw [← List.drop_drop, h]
      rfl
    have h1 : (s.take (b + 1)).drop b = [nmO z] := by
      rw [List.drop_take, h]
      simp [alt]
    simp only [List.length_cons, odds, List.cons_append, segs, h1]
    rw [segs_alt a s r y (b + 2) hd]
    rfl
theorem ops_alt (a : List UInt8) (s : List Opd) : ∀ (r : List (List UInt8)) (z : List UInt8) (b : Nat), s.drop b = alt a z r → opTrees s (odds (b + 1) r.length) = r.map (fun _ => nmT a)
  | [], z, b, h => rfl
  | y :: r, z, b, h => by
    have hd : s.drop (b + 2) = alt a y r := by
      rw [← List.drop_drop, h]
      rfl
    have h1 : s.getD (b + 1) opdZ = nmO a := by
      have : s[b + 1]? = (s.drop b)[1]? := by rw [List.getElem?_drop]
      rw [List.getD_eq_getElem?_getD, this, h]
      rfl
    have ih := ops_alt a s r y (b + 2) hd
    unfold opTrees at ih ⊢
    simp only [List.length_cons, odds, List.map_cons, h1]
    rw [ih]
    rfl
theorem low_one {z : List UInt8} (hz : Plain z) : low [] [nmO z] = lowZ := by
  unfold low
  rw [lowN, op_plain hz]
  rfl
theorem resP_one {z : List UInt8} (hz : Plain z) (m : Nat) : resP [] (m + 1) [nmO z] = .ok (nmT z) := by
  have e : resP [] (m + 1) [nmO z] = resBody [] (resP [] m) [nmO z] := if_neg (by simp)
  rw [e]
  unfold resBody
  rw [low_one hz]
  rfl
theorem allOk_ones (m : Nat) : ∀ (l : List (List UInt8)), (∀ x ∈ l, Plain x) → allOk (resP [] (m + 1)) (l.map fun y => [nmO y]) = .ok (l.map nmT)
  | [], _ => rfl
  | x :: r, h => by
    rw [List.map_cons, allOk, resP_one (h x List.mem_cons_self) m]
    simp only
    rw [allOk_ones m r (fun y hy => h y (List.mem_cons_of_mem _ hy))]
    rfl
theorem joinR_arr : ∀ (r : List (List UInt8)) (z : List UInt8), joinR rawZ (r.map (fun _ => nmT arrR)) ((z :: r).map nmT) = arrowsT z r
  | [], z => rfl
  | y :: r, z => by
    rw [List.map_cons, List.map_cons, joinR, joinR_arr r y]
    rfl
theorem joinL_arr : ∀ (r : List (List UInt8)) (t : Raw), joinL t ((r.map (fun _ => nmT arrL)).zip (r.map nmT)) = r.foldl (fun t y => arrowT (nmT y) t) t
  | [], t => rfl
  | y :: r, t => by
    have := joinL_arr r (arrowT (nmT y) t)
    unfold joinL at this ⊢
    simp only [List.map_cons, List.zip_cons_cons, List.foldl_cons]
    exact this
theorem fold_arr : ∀ (r : List (List UInt8)) (z : List UInt8) (t : Raw), r.reverse.foldl (fun t y => arrowT (nmT y) t) t = r.foldr (fun y t => arrowT (nmT y) t) t := fun r z t => by rw [List.foldl_reverse]
theorem arrows_foldr : ∀ (r : List (List UInt8)) (z : List UInt8), arrowsT z r = ((z :: r).dropLast).foldr (fun y t => arrowT (nmT y) t) (nmT ((z :: r).getLast (by simp)))
  | [], z => rfl
  | y :: r, z => by
    rw [arrowsT, arrows_foldr r y]
    rfl

def chainO (a : List UInt8) : List (List UInt8) → List Opd
  | [] => []
  | z :: r => alt a z r
theorem chainO_len (a : List UInt8) : ∀ l, (chainO a l).length = 2 * l.length - 1
  | [] => rfl
  | z :: r => by simp only [chainO, alt, List.length_cons, alts_len]; omega
theorem chainO_snoc (a x : List UInt8) : ∀ l, l ≠ [] → chainO a (l ++ [x]) = chainO a l ++ [nmO a] ++ [nmO x]
  | [], h => absurd rfl h
  | z :: r, _ => by
    show alt a z (r ++ [x]) = _
    simp [alt, alts_app, chainO, alts]
theorem chainO_cons (a x : List UInt8) : ∀ l, l ≠ [] → chainO a (x :: l) = nmO x :: nmO a :: chainO a l
  | [], h => absurd rfl h
  | z :: r, _ => rfl
theorem chainO_mem (a : List UInt8) (l : List (List UInt8)) (x : Opd) (h : x ∈ chainO a l) : x = nmO a ∨ ∃ n ∈ l, x = nmO n := by
  cases l with
  | nil => cases h
  | cons z r =>
    simp only [chainO, alt, alts, List.mem_cons, List.mem_flatMap, List.not_mem_nil, or_false] at h
    rcases h with h | ⟨y, hy, h | h⟩
    · exact .inr ⟨z, List.mem_cons_self, h⟩
    · exact .inl h
    · exact .inr ⟨y, List.mem_cons_of_mem _ hy, h⟩
theorem wf_nm {n : List UInt8} (h : isName n = true) : (nmT n).wf = 0 := by
  unfold nmT Raw.wf
  have : (Raw.node 1 n 0 []).form = true := by simp [Raw.form, Raw.forms, formed, h]
  rw [this]
  rfl
theorem any_wf (c : Int) (hc : c ≠ 0) (s : List Opd) (h : ∀ x ∈ s, x.arrow = true ∨ x.tree.wf = 0) : s.any (fun x => !x.arrow && decide (x.tree.wf = c)) = false := by
  rw [List.any_eq_false]
  intro x hx
  rcases h x hx with h | h
  · simp [h]
  · simp [h]; intro _ h0; exact hc h0.symm
theorem arrow_R : (nmO arrR).arrow = true := rfl
theorem arrow_L : (nmO arrL).arrow = true := rfl
theorem arrow_plain {n : List UInt8} (h : Plain n) : (nmO n).arrow = false := by
  have h1 := h.2.1
  have h2 := h.2.2
  simp [Opd.arrow, nmO, nmT, Raw.name, h1, h2]
theorem arrows_form : ∀ (r : List (List UInt8)) (z : List UInt8), Plain z → (∀ x ∈ r, Plain x) → (arrowsT z r).form = true ∧ (arrowsT z r).size = 2 * r.length + 1 ∧ (arrowsT z r).depth = r.length + 1
  | [], z, hz, _ => by
    have := hz.1
    simp [arrowsT, nmT, Raw.form, Raw.forms, formed, this, Raw.size, Raw.sizes, Raw.depth, Raw.depths]
  | y :: r, z, hz, hr => by
    obtain ⟨h1, h2, h3⟩ := arrows_form r y (hr y List.mem_cons_self) (fun x hx => hr x (List.mem_cons_of_mem _ hx))
    have := hz.1
    simp only [arrowsT, arrowT, nmT, Raw.form, Raw.forms, formed, Raw.size, Raw.sizes, Raw.depth, Raw.depths, h1, h2, h3, List.length_cons]
    refine ⟨by simp [this], by omega, by omega⟩
theorem arrows_wf (r : List (List UInt8)) (z : List UInt8) (hz : Plain z) (hr : ∀ x ∈ r, Plain x) (hl : r.length ≤ 100) : (arrowsT z r).wf = 0 := by
  obtain ⟨h1, h2, h3⟩ := arrows_form r z hz hr
  unfold Raw.wf
  rw [h1, h2, h3, if_neg (by simp), if_neg (by omega)]
theorem resP_alt (a : List UInt8) (f : Int) (hf : f = 4 ∨ f = 5) (ha : opOf [] (nmO a) = some ⟨[], f, -1⟩) (z y : List UInt8) (r : List (List UInt8)) (hz : Plain z) (hr : ∀ x ∈ y :: r, Plain x) : resP [] (alt a z (y :: r)).length (alt a z (y :: r)) = .ok (joined f ((y :: r).map fun _ => nmT a) ((z :: y :: r).map nmT)) := by
  have hlen : (alt a z (y :: r)).length = 2 * r.length + 1 + 1 + 1 := by
    simp only [alt, List.length_cons, alts_len]; omega
  have hs := segs_alt a (alt a z (y :: r)) (y :: r) z 0 rfl
  have ho := ops_alt a (alt a z (y :: r)) (y :: r) z 0 rfl
  have hk := low_alt a f ha z hz y r hr
  have hall := allOk_ones (2 * r.length + 1) (z :: y :: r) (fun x hx => by
    rcases List.mem_cons.1 hx with rfl | hx
    · exact hz
    · exact hr x hx)
  rw [hlen] at hs ⊢
  generalize alt a z (y :: r) = s at *
  have e : resP [] (2 * r.length + 1 + 1 + 1) s = resBody [] (resP [] (2 * r.length + 1 + 1)) s := if_neg (by omega)
  rw [e]
  unfold resBody
  rw [hk]
  have ho1 : (odds 1 (y :: r).length).length ≠ 0 := by simp [odds]
  simp only
  rw [if_neg ho1, if_neg (by simp), if_neg (by omega), if_neg (by omega), if_neg (by omega)]
  unfold binT
  rw [hlen]
  simp only [Nat.zero_add] at hs ho
  rw [hs]
  have hm : ([nmO z] :: (y :: r).map (fun y => [nmO y])) = (z :: y :: r).map (fun y => [nmO y]) := rfl
  rw [hm, hall]
  simp only
  rw [ho]
theorem resolved_alt (a : List UInt8) (f : Int) (hf : f = 4 ∨ f = 5) (harr : (nmO a).arrow = true) (ha : opOf [] (nmO a) = some ⟨[], f, -1⟩) (z : List UInt8) (r : List (List UInt8)) (hz : Plain z) (hr : ∀ x ∈ r, Plain x) (t : Raw) (ht : joined f (r.map fun _ => nmT a) ((z :: r).map nmT) = t) (hw : t.wf = 0) : resolved [] (alt a z r) = (t, 0) := by
  have hall : ∀ x ∈ alt a z r, x.arrow = true ∨ x.tree.wf = 0 := fun x hx => by
    rcases chainO_mem a (z :: r) x hx with rfl | ⟨n, hn, rfl⟩
    · exact .inl harr
    · refine .inr (wf_nm ?_)
      rcases List.mem_cons.1 hn with rfl | hn
      · exact hz.1
      · exact (hr n hn).1
  unfold resolved
  rw [if_neg (by simp), any_wf 1 (by decide) _ hall, any_wf 2 (by decide) _ hall, if_neg (by simp), if_neg (by simp)]
  cases r with
  | nil =>
    have h0 := arrow_plain hz
    rw [if_pos (show (alt a z []).length = 1 from rfl)]
    show (if (nmO z).arrow = true then (rawZ, (21 : Int)) else (nmT z, 0)) = _
    rw [h0]
    rcases hf with rfl | rfl
    · rw [← ht]; rfl
    · rw [← ht]; rfl
  | cons y r =>
    rw [if_neg (by simp only [alt, List.length_cons, alts_len]; omega), resP_alt a f hf ha z y r hz hr, ht]
    simp only
    rw [if_pos hw]
theorem resolved_R (l : List (List UInt8)) (z : List UInt8) (r : List (List UInt8)) (hl : l = z :: r) (hp : ∀ x ∈ l, Plain x) (hn : l.length ≤ 100) : resolved [] (chainO arrR l) = (arrowsT z r, 0) := by
  subst hl
  have hz := hp z List.mem_cons_self
  have hr : ∀ x ∈ r, Plain x := fun x hx => hp x (List.mem_cons_of_mem _ hx)
  simp only [List.length_cons] at hn
  exact resolved_alt arrR 5 (.inr rfl) arrow_R op_R z r hz hr _ (by unfold joined; rw [if_pos rfl]; exact joinR_arr r z) (arrows_wf r z hz hr (by omega))
theorem resolved_L (l : List (List UInt8)) (z : List UInt8) (r : List (List UInt8)) (hl : l = z :: r) (hp : ∀ x ∈ l, Plain x) (hn : l.length ≤ 100) : resolved [] (chainO arrL l.reverse) = (arrowsT z r, 0) := by
  subst hl
  have hz := hp z List.mem_cons_self
  have hr : ∀ x ∈ r, Plain x := fun x hx => hp x (List.mem_cons_of_mem _ hx)
  simp only [List.length_cons] at hn
  have hrev : (z :: r).reverse = (z :: r).getLast (by simp) :: (z :: r).dropLast.reverse := by
    have : (z :: r).dropLast ++ [(z :: r).getLast (by simp)] = z :: r := List.dropLast_concat_getLast _
    conv => lhs; rw [← this]
    simp
  rw [hrev]
  refine resolved_alt arrL 4 (.inl rfl) arrow_L op_L _ _ (hp _ (List.getLast_mem _)) (fun x hx => hp x ((List.dropLast_sublist _).subset (List.mem_reverse.1 hx))) _ ?_ (arrows_wf r z hz hr (by omega))
  unfold joined
  rw [if_neg (by decide)]
  simp only [List.map_cons, List.getD_cons_zero, List.drop_succ_cons, List.drop_zero]
  rw [joinL_arr, fold_arr _ z, ← arrows_foldr]
theorem opOf_nil (x : Opd) : opOf [] x = none ∨ ∃ o, opOf [] x = some o ∧ o.prec = -1 := by
  unfold opOf look
  split
  · exact .inl rfl
  · split
    · exact .inr ⟨_, rfl, rfl⟩
    · split
      · exact .inr ⟨_, rfl, rfl⟩
      · exact .inl rfl
theorem lowN_false : ∀ (s : List Opd) (st : LowS) (i : Nat), st.same = false → st.first.prec = -1 → st.at_.length ≠ 0 → (lowN [] st i s).same = false ∧ (lowN [] st i s).at_.length ≠ 0
  | [], st, i, h1, h2, h3 => ⟨h1, h3⟩
  | x :: s, st, i, h1, h2, h3 => by
    rw [lowN]
    rcases opOf_nil x with h | ⟨o, h, ho⟩
    · rw [h]; exact lowN_false s st (i + 1) h1 h2 h3
    · rw [h]
      have e : lowStep st i (some o) = ⟨st.at_ ++ [i], st.first, st.same && decide (o.fix = st.first.fix)⟩ := by
        unfold lowStep
        simp only
        rw [if_neg (by omega), if_pos (by omega)]
      rw [e]
      exact lowN_false s _ (i + 1) (by simp [h1]) h2 (by simp)
theorem low_mixed (z y y' : List UInt8) (q : List Opd) (hz : Plain z) (hy : Plain y) : (low [] (nmO z :: nmO arrL :: nmO y :: nmO arrR :: q)).same = false ∧ (low [] (nmO z :: nmO arrL :: nmO y :: nmO arrR :: q)).at_.length ≠ 0 := by
  unfold low
  rw [lowN, op_plain hz, lowN, op_L, lowN, op_plain hy, lowN, op_R]
  exact lowN_false q ⟨[1, 3], ⟨[], 4, -1⟩, false⟩ _ rfl rfl (by simp)
theorem resolved_mixed (z y : List UInt8) (r : List (List UInt8)) (hp : ∀ x ∈ z :: y :: r, Plain x) (hr : r ≠ []) : resolved [] ((chainO arrR (z :: y :: r)).set 1 (nmO arrL)) = (rawZ, 22) := by
  obtain ⟨y', r', rfl⟩ := List.exists_cons_of_ne_nil hr
  have hall : ∀ x ∈ (chainO arrR (z :: y :: y' :: r')).set 1 (nmO arrL), x.arrow = true ∨ x.tree.wf = 0 := fun x hx => by
    rcases List.mem_or_eq_of_mem_set hx with hx | rfl
    · rcases chainO_mem arrR _ x hx with rfl | ⟨n, hn, rfl⟩
      · exact .inl arrow_R
      · exact .inr (wf_nm (hp n hn).1)
    · exact .inl arrow_L
  have hs : (chainO arrR (z :: y :: y' :: r')).set 1 (nmO arrL) = nmO z :: nmO arrL :: nmO y :: nmO arrR :: nmO y' :: alts arrR r' := rfl
  rw [hs] at hall ⊢
  have hk := low_mixed z y y' (nmO y' :: alts arrR r') (hp z List.mem_cons_self) (hp y (by simp))
  unfold resolved
  rw [if_neg (by simp), any_wf 1 (by decide) _ hall, any_wf 2 (by decide) _ hall, if_neg (by simp), if_neg (by simp), if_neg (by simp)]
  generalize nmO y' :: alts arrR r' = q at *
  have e : resP [] (nmO z :: nmO arrL :: nmO y :: nmO arrR :: q).length (nmO z :: nmO arrL :: nmO y :: nmO arrR :: q) = .error 22 := by
    have e0 : resP [] (nmO z :: nmO arrL :: nmO y :: nmO arrR :: q).length (nmO z :: nmO arrL :: nmO y :: nmO arrR :: q) = resBody [] (resP [] (nmO arrL :: nmO y :: nmO arrR :: q).length) (nmO z :: nmO arrL :: nmO y :: nmO arrR :: q) := if_neg (by simp)
    rw [e0]
    unfold resBody
    rw [if_neg hk.2, if_pos hk.1]
  rw [e]
theorem wsum_nm : ∀ (s : List Opd), (∀ x ∈ s, ∃ n, x = nmO n) → wsum s = 3 * s.length
  | [], _ => rfl
  | x :: r, h => by
    obtain ⟨n, rfl⟩ := h x List.mem_cons_self
    rw [wsum, wsum_nm r (fun y hy => h y (List.mem_cons_of_mem _ hy)), List.length_cons]
    show 1 + 2 + 3 * r.length = _
    omega
theorem chainO_nm (a : List UInt8) (l : List (List UInt8)) (x : Opd) (h : x ∈ chainO a l) : ∃ n, x = nmO n := by
  rcases chainO_mem a l x h with rfl | ⟨n, _, rfl⟩ <;> exact ⟨_, rfl⟩
theorem sames_refl (b : Bool) : ∀ (r : List (List UInt8)) (z : List UInt8), (arrowsT z r).same b (arrowsT z r) = true
  | [], z => by simp [arrowsT, nmT, Raw.same, Raw.sames]
  | y :: r, z => by
    have := sames_refl b r y
    simp only [arrowsT, arrowT, nmT, Raw.same, Raw.sames, this]
    simp
theorem alt_drop (a : List UInt8) : ∀ (j : Nat) (z : List UInt8) (r : List (List UInt8)) (z' : List UInt8) (r' : List (List UInt8)), (z :: r).drop j = z' :: r' → (alt a z r).drop (2 * j) = alt a z' r'
  | 0, z, r, z', r', h => by cases h; rfl
  | j + 1, z, [], z', r', h => by simp at h
  | j + 1, z, y :: r, z', r', h => by
    have := alt_drop a j y r z' r' h
    rw [show 2 * (j + 1) = 2 * j + 2 by omega, ← this]
    rfl
theorem chainO_get (a : List UInt8) (j : Nat) (z : List UInt8) (r : List (List UInt8)) (z' : List UInt8) (r' : List (List UInt8)) (h : (z :: r).drop j = z' :: r') : (chainO a (z :: r))[2 * j]? = some (nmO z') := by
  have := alt_drop a j z r z' r' h
  have h2 : (chainO a (z :: r))[2 * j]? = ((alt a z r).drop (2 * j))[0]? := by rw [List.getElem?_drop]; rfl
  rw [h2, this]
  rfl
end Lfc

/- Chains of names in memory: the two rows of OperatorArrows. -/
set_option linter.unusedVariables false
set_option linter.unusedSimpArgs false
namespace Go.Proofs.YtkhfnkokdmoipaaDoor
open Go.RowKit Go.Maps Go.WideMaps

def nC (n : List UInt8) : List Value := [.int .i64 1, S n, .int .i64 0, .slice none 0 0, .bool false]
def nCells (s : List Lfc.Opd) : List Value := s.flatMap fun x => nC x.tree.name
theorem nCells_len : ∀ s, (nCells s).length = s.length * 5
  | [] => rfl
  | x :: r => by
    have := nCells_len r
    simp only [nCells, List.flatMap_cons, List.length_append, List.length_cons] at this ⊢
    rw [this]
    simp [nC]; omega
theorem nCells_app (a b : List Lfc.Opd) : nCells (a ++ b) = nCells a ++ nCells b := by simp [nCells]
theorem nCells_cons (x : Lfc.Opd) (b : List Lfc.Opd) : nCells (x :: b) = nC x.tree.name ++ nCells b := rfl
theorem nC_one (n : List UInt8) : ∀ u ∈ nC n, u.oneCell' = true := by
  intro u hu
  simp only [nC, List.mem_cons, List.not_mem_nil, or_false] at hu
  rcases hu with rfl | rfl | rfl | rfl | rfl <;> rfl
theorem nCells_one (s : List Lfc.Opd) : ∀ u ∈ nCells s, u.oneCell' = true := by
  intro u hu
  obtain ⟨x, _, hx⟩ := List.mem_flatMap.1 hu
  exact nC_one _ u hx
theorem nCells_get : ∀ (s : List Lfc.Opd) (i : Nat) (h : i < s.length), (nCells s)[i * 5]? = some (.int .i64 1) ∧ (nCells s)[i * 5 + 1]? = some (S s[i].tree.name) ∧ (nCells s)[i * 5 + 2]? = some (.int .i64 0) ∧ (nCells s)[i * 5 + 3]? = some (.slice none 0 0) ∧ (nCells s)[i * 5 + 4]? = some (.bool false)
  | [], i, h => absurd h (by simp)
  | x :: r, 0, h => ⟨rfl, rfl, rfl, rfl, rfl⟩
  | x :: r, i + 1, h => by
    have := nCells_get r i (by simpa using h)
    rw [show (i + 1) * 5 = i * 5 + 1 + 1 + 1 + 1 + 1 by omega]
    simpa [nCells, nC] using this
/-- Operands that are names. -/
def NamesO (s : List Lfc.Opd) : Prop := ∀ x ∈ s, ∃ n, x = Lfc.nmO n ∧ n.length ≤ 1000000
theorem OpdsAt.of_own {w : World} {base c : Nat} {A : Option Addr} {s : List Lfc.Opd} (hn : NamesO s) (h : w.ownsRow base 42 5 (.slice A s.length c) s.length (nCells s)) : OpdsAt w A s := fun hne => by
  rcases h.2 with ⟨_, h0⟩ | ⟨g, cap, cur, hv, hbg, hg, _⟩
  · exact absurd (List.length_eq_zero_iff.1 h0) hne
  · have hv' := hv
    injection hv with e1 _ e3
    subst e1 e3
    have hc := own_cells h
    refine ⟨g, 0, rfl, lt_of_block hg, fun i hi => ?_⟩
    obtain ⟨c0, c1, c2, c3, c4⟩ := nCells_get s i hi
    obtain ⟨n, hx, hl⟩ := hn _ (List.getElem_mem hi)
    rw [hx] at c1 ⊢
    exact opdC_name hl (hc _ _ c0) (hc _ _ c1) (hc _ _ c2) (hc _ _ c3) (hc _ _ c4)
/-- The two rows of the loop. -/
structure ArrI (w : World) (s b : List Lfc.Opd) (vs vb : Value) (wr : World) : Prop where
  bel : Below w.heap.size w wr
  own : wr.ownsRow w.heap.size 42 5 vs s.length (nCells s)
  back : wr.ownsRow w.heap.size 42 5 vb b.length (nCells b)
  ne : vs.ownBlock = none ∨ vs.ownBlock ≠ vb.ownBlock
theorem ArrI.new {w wr W : World} {s b : List Lfc.Opd} {vs vb : Value} (h : ArrI w s b vs vb wr) (hb : Below wr.heap.size wr W) : ArrI w s b vs vb W :=
  ⟨h.bel.trans (hb.mono h.bel.size), own_below h.own hb, own_below h.back hb, h.ne⟩
theorem ArrI.pushS {w W w' : World} {s b : List Lfc.Opd} {vs vb v' : Value} {n : List UInt8} (h : ArrI w s b vs vb W) (hg : W.grownBy w' vs.ownBlock) (ho : w'.ownsRow w.heap.size 42 5 v' (s.length + 1) (nCells s ++ nC n)) (hl : v'.ownBlock = vs.ownBlock ∨ v'.ownBlock = some W.heap.size) : ArrI w (s ++ [Lfc.nmO n]) b v' vb w' := by
  refine ⟨h.bel.grown hg h.bel.size (fun k hk => (h.own.lt k hk).1), ?_, h.back.kept hg ?_, ?_⟩
  · rw [nCells_app, List.length_append]; exact ho
  · rcases h.ne with e | e
    · rw [e]
      cases vb.ownBlock with
      | none => exact .inl rfl
      | some k => exact .inr (by simp)
    · exact .inr (fun e' => e e'.symm)
  · rcases hl with e | e
    · rw [e]; exact h.ne
    · refine .inr ?_
      rw [e]
      intro e'
      have := (h.back.lt _ e'.symm).2
      omega
theorem ArrI.pushB {w wr W w' : World} {s b : List Lfc.Opd} {vs vb v' : Value} {n : List UInt8} (h : ArrI w s b vs vb wr) (hb : Below wr.heap.size wr W) {g : Nat} (hge : wr.heap.size ≤ g) (hgl : g < W.heap.size) (hg : W.grownBy w' (some g)) (ho : w'.ownsRow w.heap.size 42 5 v' (1 + b.length) (nC n ++ nCells b)) (hl : v'.ownBlock = some g ∨ v'.ownBlock = some W.heap.size) : ArrI w s (Lfc.nmO n :: b) vs v' w' := by
  have hW := h.new hb
  have hs := h.bel.size
  refine ⟨hW.bel.grown hg hW.bel.size (fun k hk => by have := Option.some.inj hk; omega), hW.own.kept hg (.inr (fun e => by have := (h.own.lt _ e).2; omega)), ?_, .inr (fun e => ?_)⟩
  · rw [nCells_cons, List.length_cons, Nat.add_comm]; exact ho
  · rcases hl with e' | e'
    · have := (h.own.lt _ (e.trans e')).2; omega
    · have := (h.own.lt _ (e.trans e')).2; have := hb.size; omega
theorem opd_info : ∃ i, Tryd.prog.info? 42 = some i ∧ i.zero = some (.agg #[.int .i64 0, S [], .int .i64 0, .slice none 0 0, .bool false]) ∧ i.size = 5 ∧ i.bytes = 64 := by
  obtain ⟨i0, hi, hz0, hz1, hz2⟩ := info_parts (show (Tryd.prog.info? 42).map (fun i => (i.zero, i.size, i.bytes)) = some (some (.agg #[.int .i64 0, S [], .int .i64 0, .slice none 0 0, .bool false]), 5, 64) by kernel_rfl)
  exact ⟨i0, hi, hz0, hz1, hz2⟩
/-- A fresh row of one name. -/
theorem own_one (w : World) (base : Nat) (h : base ≤ w.heap.size) (n : List UInt8) : (w.alloc (.cells #[.int .i64 1, S n, .int .i64 0, .slice none 0 0, .bool false] 42)).ownsRow base 42 5 (.slice (some ⟨w.heap.size, 0, none⟩) 1 1) 1 (nC n) :=
  ⟨rfl, .inr ⟨w.heap.size, 1, _, rfl, h, heap_alloc_new _ _, Nat.le_refl _, by unfold maxLen; omega, rfl, rfl⟩⟩
theorem cell_five_new (w : World) (n : List UInt8) : ∀ j u, (nC n)[j]? = some u → (w.alloc (.cells #[.int .i64 1, S n, .int .i64 0, .slice none 0 0, .bool false] 42)).cell? ((⟨w.heap.size, 0, none⟩ : Addr).add j) = some u := by
  intro j u hj
  rw [Go.WideShapes.add_plain, Nat.zero_add]
  have h := heap_alloc_new w (.cells #[.int .i64 1, S n, .int .i64 0, .slice none 0 0, .bool false] 42)
  match j, hj with
  | 0, hj => simp [nC] at hj; subst hj; exact Lib.cell_of_heap h 0
  | 1, hj => simp [nC] at hj; subst hj; exact Lib.cell_of_heap h 1
  | 2, hj => simp [nC] at hj; subst hj; exact Lib.cell_of_heap h 2
  | 3, hj => simp [nC] at hj; subst hj; exact Lib.cell_of_heap h 3
  | 4, hj => simp [nC] at hj; subst hj; exact Lib.cell_of_heap h 4
  | j + 5, hj => simp [nC] at hj
theorem box5 {w : World} {g : Nat} {n : List UInt8} (h : w.heap[g]? = some (.cells #[.int .i64 1, S n, .int .i64 0, .slice none 0 0, .bool false] 42 (0, 0))) : w.cell? ⟨g, 0, none⟩ = some (.int .i64 1) ∧ w.cell? ⟨g, 1, none⟩ = some (S n) ∧ w.cell? ⟨g, 2, none⟩ = some (.int .i64 0) ∧ w.cell? ⟨g, 3, none⟩ = some (.slice none 0 0) ∧ w.cell? ⟨g, 4, none⟩ = some (.bool false) :=
  ⟨Lib.cell_of_heap h 0, Lib.cell_of_heap h 1, Lib.cell_of_heap h 2, Lib.cell_of_heap h 3, Lib.cell_of_heap h 4⟩
/-- A new block of one name. -/
theorem lay5 (w : World) (n : List UInt8) : ∃ w', w.alloc (.cells #[.int .i64 1, S n, .int .i64 0, .slice none 0 0, .bool false] 42) = w' ∧ Below w.heap.size w w' ∧ w'.heap[w.heap.size]? = some (.cells #[.int .i64 1, S n, .int .i64 0, .slice none 0 0, .bool false] 42 (0, 0)) ∧ (w.heap.size + 1 ≤ w'.heap.size ∧ w'.heap.size ≤ w.heap.size + 1) ∧ (∀ j u, (nC n)[j]? = some u → w'.cell? ((⟨w.heap.size, 0, none⟩ : Addr).add j) = some u) ∧ (∀ base, base ≤ w.heap.size → w'.ownsRow base 42 5 (.slice (some ⟨w.heap.size, 0, none⟩) 1 1) 1 (nC n)) :=
  ⟨_, rfl, (Below.refl _ _).alloc (Nat.le_refl _) _, heap_alloc_new _ _, by simp, cell_five_new w n, fun base h => own_one w base h n⟩

theorem own_cap {w : World} {base : Nat} {e : TypeId} {size n : Nat} {v : Value} {xs : List Value} (h : w.ownsRow base e size v n xs) : ∃ A c, v = .slice A n c ∧ n ≤ c := by
  rcases h.2 with ⟨rfl, rfl⟩ | ⟨g, cap, cur, rfl, _, _, hnc, _⟩
  · exact ⟨none, 0, rfl, Nat.le_refl _⟩
  · exact ⟨_, cap, rfl, hnc⟩
theorem ops_nil (w : World) : OpsAt w none [] := ⟨fun x h => by (cases h), fun h => absurd rfl h⟩
theorem OpdsAt.of_cells {w : World} {g : Nat} {s : List Lfc.Opd} (hn : NamesO s) (hlt : g < w.heap.size) (hc : CellsAt w g 0 (nCells s)) : OpdsAt w (some ⟨g, 0, none⟩) s := fun _ => by
  refine ⟨g, 0, rfl, hlt, fun i hi => ?_⟩
  obtain ⟨c0, c1, c2, c3, c4⟩ := nCells_get s i hi
  obtain ⟨n, hx, hl⟩ := hn _ (List.getElem_mem hi)
  rw [hx] at c1 ⊢
  exact opdC_name hl (hc _ _ c0) (hc _ _ c1) (hc _ _ c2) (hc _ _ c3) (hc _ _ c4)
end Go.Proofs.YtkhfnkokdmoipaaDoor

/- Chains of infix operators of three levels: what they resolve to. No program in sight. -/
set_option linter.unusedVariables false
set_option linter.unusedSimpArgs false
namespace Lfc
mutual
theorem lvSame (at_ : Bool) : ∀ t : Raw, Raw.same at_ t t = true
  | .node k n p ts => by simp [Raw.same, lvSames at_ ts]
theorem lvSames (at_ : Bool) : ∀ ts : List Raw, Raw.sames at_ ts ts = true
  | [] => by simp [Raw.sames]
  | a :: r => by simp [Raw.sames, lvSame at_ a, lvSames at_ r]
end
def lvPlus (f : Int) : Op := ⟨[43], f, 10⟩
def lvOps (f : Int) : List Op := [lvPlus f, ⟨[42], 4, 20⟩, ⟨[94], 5, 30⟩]
def lvX : List (List UInt8) := [[97], [98], [99]]
def lvO : List (List UInt8) := [[43], [42], [94], [42]]
def AltP (s : List Opd) : Prop := s.length % 2 = 1 ∧ ∀ i x, s[i]? = some x → (i % 2 = 0 → ∃ n ∈ lvX, x = nmO n) ∧ (i % 2 = 1 → ∃ n ∈ lvO, x = nmO n)
theorem lv_x (f : Int) {n : List UInt8} (h : n ∈ lvX) : opOf (lvOps f) (nmO n) = none := by
  simp only [lvX, List.mem_cons, List.not_mem_nil, or_false] at h
  rcases h with rfl | rfl | rfl <;> rfl
theorem lv_o (f : Int) {n : List UInt8} (h : n ∈ lvO) : ∃ o ∈ lvOps f, opOf (lvOps f) (nmO n) = some o ∧ (n ≠ [43] → 10 < o.prec) := by
  simp only [lvO, List.mem_cons, List.not_mem_nil, or_false] at h
  rcases h with rfl | rfl | rfl | rfl
  · exact ⟨lvPlus f, by simp [lvOps], rfl, fun h => absurd rfl h⟩
  · exact ⟨⟨[42], 4, 20⟩, by simp [lvOps], rfl, fun _ => by decide⟩
  · exact ⟨⟨[94], 5, 30⟩, by simp [lvOps], rfl, fun _ => by decide⟩
  · exact ⟨⟨[42], 4, 20⟩, by simp [lvOps], rfl, fun _ => by decide⟩
theorem lv_plus (f : Int) : opOf (lvOps f) (nmO [43]) = some (lvPlus f) := rfl
theorem lv_prec (f : Int) {o o' : Op} (h : o ∈ lvOps f) (h' : o' ∈ lvOps f) (e : o.prec = o'.prec) : o = o' := by
  simp only [lvOps, List.mem_cons, List.not_mem_nil, or_false] at h h'
  rcases h with rfl | rfl | rfl <;> rcases h' with rfl | rfl | rfl <;> first | rfl | (simp [lvPlus] at e)
theorem lv_fix (f : Int) (hf : f = 4 ∨ f = 5) {o : Op} (h : o ∈ lvOps f) : o.fix = 4 ∨ o.fix = 5 := by
  simp only [lvOps, List.mem_cons, List.not_mem_nil, or_false] at h
  rcases h with rfl | rfl | rfl
  · exact hf
  · exact .inl rfl
  · exact .inr rfl
theorem lvX_name {n : List UInt8} (h : n ∈ lvX) : isName n = true := by
  have : ∀ n ∈ lvX, isName n = true := by decide
  exact this n h
theorem lvO_name {n : List UInt8} (h : n ∈ lvO) : isName n = true := by
  have : ∀ n ∈ lvO, isName n = true := by decide
  exact this n h
theorem lvX_O {n : List UInt8} (h : n ∈ lvX) (h' : n ∈ lvO) : False := by
  have : ∀ n ∈ lvX, n ∉ lvO := by decide
  exact this n h h'
theorem lv_arrow {n : List UInt8} (h : n ∈ lvX ∨ n ∈ lvO) : (nmO n).arrow = false := by
  have h1 : ∀ n ∈ lvX ++ lvO, n ≠ arrR ∧ n ≠ arrL := by decide
  obtain ⟨h2, h3⟩ := h1 n (List.mem_append.2 h)
  simp [Opd.arrow, nmO, nmT, Raw.name, h2, h3]
theorem form_nm {n : List UInt8} (h : isName n = true) : (nmT n).form = true := by simp [nmT, Raw.form, Raw.forms, formed, h]
theorem alt_mem {s : List Opd} (h : AltP s) {x : Opd} (hx : x ∈ s) : ∃ n, (n ∈ lvX ∨ n ∈ lvO) ∧ x = nmO n := by
  obtain ⟨i, hi, e⟩ := List.mem_iff_getElem.1 hx
  have := h.2 i x (by rw [List.getElem?_eq_getElem hi, e])
  rcases (show i % 2 = 0 ∨ i % 2 = 1 by omega) with h0 | h0
  · obtain ⟨n, hn, rfl⟩ := this.1 h0; exact ⟨n, .inl hn, rfl⟩
  · obtain ⟨n, hn, rfl⟩ := this.2 h0; exact ⟨n, .inr hn, rfl⟩
theorem alt_op (f : Int) {s : List Opd} (h : AltP s) {i : Nat} (hi : i < s.length) : (i % 2 = 0 ∧ opOf (lvOps f) s[i] = none) ∨ (i % 2 = 1 ∧ ∃ o ∈ lvOps f, opOf (lvOps f) s[i] = some o) := by
  have := h.2 i _ (List.getElem?_eq_getElem hi)
  rcases (show i % 2 = 0 ∨ i % 2 = 1 by omega) with h0 | h0
  · obtain ⟨n, hn, e⟩ := this.1 h0
    exact .inl ⟨h0, by rw [e]; exact lv_x f hn⟩
  · obtain ⟨n, hn, e⟩ := this.2 h0
    obtain ⟨o, ho, e', _⟩ := lv_o f hn
    exact .inr ⟨h0, o, ho, by rw [e]; exact e'⟩
theorem alt_low (f : Int) (s : List Opd) (h : AltP s) : ∀ j, j ≤ s.length → ((low (lvOps f) (s.take j)).at_.length = 0 ∨ ((low (lvOps f) (s.take j)).first ∈ lvOps f ∧ (low (lvOps f) (s.take j)).same = true)) ∧ (∀ i ∈ (low (lvOps f) (s.take j)).at_, i % 2 = 1) ∧ (2 ≤ j → (low (lvOps f) (s.take j)).at_.length ≠ 0)
  | 0, _ => by simp [low, lowN, lowZ]
  | j + 1, hj => by
    obtain ⟨h1, h2, h3⟩ := alt_low f s h j (by omega)
    rw [low_succ _ s j (by omega)]
    rcases alt_op f h (show j < s.length by omega) with ⟨h0, e⟩ | ⟨h0, o, ho, e⟩
    · rw [e]
      exact ⟨h1, h2, fun hh => h3 (by omega)⟩
    · rw [e]
      unfold lowStep
      simp only
      generalize low (lvOps f) (s.take j) = L at *
      split
      · exact ⟨.inr ⟨ho, rfl⟩, fun i hi => by simp at hi; omega, fun _ => by simp⟩
      · rename_i hn
        have hL : L.first ∈ lvOps f ∧ L.same = true := by
          rcases h1 with h1 | h1
          · exact absurd (.inl h1) hn
          · exact h1
        split
        · rename_i he
          have := lv_prec f ho hL.1 he
          refine ⟨.inr ⟨hL.1, by simp [hL.2, this]⟩, fun i hi => ?_, fun _ => by simp⟩
          rcases List.mem_append.1 hi with hi | hi
          · exact h2 i hi
          · simp at hi; omega
        · exact ⟨h1, h2, fun _ e => hn (.inl e)⟩
theorem alt_part {s : List Opd} (h : AltP s) {b e : Nat} (hb : b % 2 = 0) (he : e % 2 = 1) (hbe : b ≤ e) (hes : e ≤ s.length) : AltP ((s.take e).drop b) ∧ ((s.take e).drop b).length = e - b := by
  have hl : ((s.take e).drop b).length = e - b := by rw [List.length_drop, List.length_take]; omega
  refine ⟨⟨by rw [hl]; omega, fun i x hx => ?_⟩, hl⟩
  rw [List.getElem?_drop, List.getElem?_take] at hx
  split at hx
  · have := h.2 _ x hx
    exact ⟨fun hi => this.1 (by omega), fun hi => this.2 (by omega)⟩
  · cases hx
theorem segs_altP {s : List Opd} (h : AltP s) : ∀ (at_ : List Nat) (b : Nat), b % 2 = 0 → at_.Pairwise (· < ·) → (∀ i ∈ at_, b ≤ i ∧ i < s.length ∧ i % 2 = 1) → b ≤ s.length → ∀ q ∈ segs s b (at_ ++ [s.length]), AltP q ∧ (q.length < s.length ∨ (b = 0 ∧ at_ = []))
  | [], b, hb, _, _, hbl, q, hq => by
    have h1 := h.1
    simp only [List.nil_append, segs, List.mem_cons, List.not_mem_nil, or_false] at hq
    subst hq
    have := alt_part h hb h1 hbl (Nat.le_refl _)
    refine ⟨this.1, ?_⟩
    rw [this.2]
    rcases Nat.eq_zero_or_pos b with h0 | h0
    · exact .inr ⟨h0, rfl⟩
    · exact .inl (by omega)
  | e :: r, b, hb, hp, hi, hbl, q, hq => by
    rw [List.pairwise_cons] at hp
    obtain ⟨h1, h2, h3⟩ := hi e List.mem_cons_self
    rw [List.cons_append, segs, List.mem_cons] at hq
    rcases hq with rfl | hq
    · have := alt_part h hb h3 h1 (by omega)
      exact ⟨this.1, .inl (by rw [this.2]; omega)⟩
    · have := segs_altP h r (e + 1) (by omega) hp.2 (fun i hr => ⟨hp.1 i hr, (hi i (List.mem_cons_of_mem _ hr)).2⟩) (by omega) q hq
      rcases this.2 with h4 | h4
      · exact ⟨this.1, .inl h4⟩
      · omega
theorem appT_form {a b : Raw} (ha : a.form = true) (hb : b.form = true) : (appT a b).form = true := by
  simp [appT, Raw.form, Raw.forms, formed, ha, hb]
theorem joinT_form {o a b : Raw} (ho : o.form = true) (ha : a.form = true) (hb : b.form = true) : (joinT o a b).form = true := by
  unfold joinT
  split
  · simp [Raw.form, Raw.forms, formed, ha, hb]
  · split
    · simp [Raw.form, Raw.forms, formed, ha, hb]
    · exact appT_form (appT_form ho ha) hb
theorem joinR_form (z : Raw) : ∀ (ops parts : List Raw), parts.length = ops.length + 1 → (∀ o ∈ ops, o.form = true) → (∀ p ∈ parts, p.form = true) → (joinR z ops parts).form = true
  | [], [p], _, _, hp => hp p (by simp)
  | o :: os, p :: ps, h, ho, hp => by
    rw [joinR]
    exact joinT_form (ho o List.mem_cons_self) (hp p List.mem_cons_self) (joinR_form z os ps (by simpa using h) (fun x hx => ho x (List.mem_cons_of_mem _ hx)) (fun x hx => hp x (List.mem_cons_of_mem _ hx)))
  | [], [], h, _, _ => by simp at h
  | [], _ :: _ :: _, h, _, _ => by simp at h
  | _ :: _, [], h, _, _ => by simp at h
theorem joinL_form : ∀ (ops parts : List Raw) (t : Raw), t.form = true → (∀ o ∈ ops, o.form = true) → (∀ p ∈ parts, p.form = true) → (joinL t (ops.zip parts)).form = true
  | [], parts, t, ht, _, _ => by simpa [joinL] using ht
  | o :: os, [], t, ht, _, _ => by simpa [joinL] using ht
  | o :: os, p :: ps, t, ht, ho, hp => by
    have := joinL_form os ps (joinT o t p) (joinT_form (ho o List.mem_cons_self) ht (hp p List.mem_cons_self)) (fun x hx => ho x (List.mem_cons_of_mem _ hx)) (fun x hx => hp x (List.mem_cons_of_mem _ hx))
    simpa [joinL] using this
theorem joined_form (fix : Int) (ops parts : List Raw) (h : parts.length = ops.length + 1) (ho : ∀ o ∈ ops, o.form = true) (hp : ∀ p ∈ parts, p.form = true) : (joined fix ops parts).form = true := by
  unfold joined
  split
  · exact joinR_form _ _ _ h ho hp
  · cases parts with
    | nil => simp at h
    | cons p ps => exact joinL_form ops ps p (hp p List.mem_cons_self) ho (fun x hx => hp x (List.mem_cons_of_mem _ hx))
theorem allOk_alt (l : List Op) (N : Nat) : ∀ (Q : List (List Opd)), (∀ q ∈ Q, ∃ t, Raw.form t = true ∧ ∀ n, N ≤ n → resP l n q = .ok t) → ∃ ts : List Raw, (∀ t ∈ ts, t.form = true) ∧ ts.length = Q.length ∧ ∀ n, N ≤ n → allOk (resP l n) Q = .ok ts
  | [], _ => ⟨[], by simp, rfl, fun n _ => rfl⟩
  | q :: r, h => by
    obtain ⟨t, ht, e⟩ := h q List.mem_cons_self
    obtain ⟨ts, hts, hl, e'⟩ := allOk_alt l N r (fun x hx => h x (List.mem_cons_of_mem _ hx))
    refine ⟨t :: ts, fun x hx => ?_, by simp [hl], fun n hn => ?_⟩
    · rcases List.mem_cons.1 hx with rfl | hx
      · exact ht
      · exact hts x hx
    · rw [allOk, e n hn]
      simp only
      rw [e' n hn]
theorem alt_ok (f : Int) (hf : f = 4 ∨ f = 5) : ∀ (m : Nat) (s : List Opd), s.length ≤ m → AltP s → ∃ t : Raw, t.form = true ∧ (s.length = 1 → t = (s.getD 0 opdZ).tree) ∧ ∀ n, s.length ≤ n → resP (lvOps f) n s = .ok t
  | 0, s, hm, h => by have := h.1; omega
  | m + 1, s, hm, h => by
    have h1 := h.1
    have hl := alt_low f s h s.length (Nat.le_refl _)
    rw [List.take_length] at hl
    have hpl := low_at (lvOps f) s
    by_cases hone : s.length = 1
    · obtain ⟨x, rfl⟩ := List.length_eq_one_iff.1 hone
      obtain ⟨k, hk, rfl⟩ := (h.2 0 x rfl).1 rfl
      refine ⟨nmT k, form_nm (lvX_name hk), fun _ => rfl, fun n hn => ?_⟩
      obtain ⟨n, rfl⟩ : ∃ k, n = k + 1 := ⟨n - 1, by simp at hn; omega⟩
      have e : resP (lvOps f) (n + 1) [nmO k] = resBody (lvOps f) (resP (lvOps f) n) [nmO k] := if_neg (by simp)
      have e2 : low (lvOps f) [nmO k] = lowZ := by
        unfold low
        rw [lowN, lv_x f hk]; rfl
      rw [e]
      unfold resBody
      rw [e2]
      rfl
    · obtain ⟨h2, h3, h4⟩ := hl
      have h4 := h4 (by omega)
      obtain ⟨hfst, hsm⟩ : (low (lvOps f) s).first ∈ lvOps f ∧ (low (lvOps f) s).same = true := by
        rcases h2 with h2 | h2
        · exact absurd h2 h4
        · exact h2
      have hfx := lv_fix f hf hfst
      have hseg := segs_altP h (low (lvOps f) s).at_ 0 rfl hpl.1 (fun i hi => ⟨Nat.zero_le _, hpl.2 i hi, h3 i hi⟩) (Nat.zero_le _)
      obtain ⟨ts, hts, htl, hall⟩ := allOk_alt (lvOps f) (s.length - 1) (segs s 0 ((low (lvOps f) s).at_ ++ [s.length])) (fun q hq => by
        obtain ⟨hq1, hq2⟩ := hseg q hq
        have hq3 : q.length < s.length := by
          rcases hq2 with hq2 | ⟨_, hq2⟩
          · exact hq2
          · rw [hq2] at h4; simp at h4
        obtain ⟨t, ht, _, e⟩ := alt_ok f hf m q (by omega) hq1
        exact ⟨t, ht, fun n hn => e n (by omega)⟩)
      refine ⟨joined (low (lvOps f) s).first.fix (opTrees s (low (lvOps f) s).at_) ts, joined_form _ _ _ ?_ ?_ hts, fun e => absurd e hone, fun n hn => ?_⟩
      · rw [htl, segs_len]; simp [opTrees]
      · intro o ho
        obtain ⟨i, hi, rfl⟩ := List.mem_map.1 ho
        have hil := hpl.2 i hi
        obtain ⟨k, hk, e⟩ := (h.2 i _ (List.getElem?_eq_getElem hil)).2 (h3 i hi)
        have e4 : s.getD i opdZ = s[i] := by simp [hil]
        rw [e4, e]
        exact form_nm (lvO_name hk)
      · obtain ⟨n, rfl⟩ : ∃ k, n = k + 1 := ⟨n - 1, by omega⟩
        have e : resP (lvOps f) (n + 1) s = resBody (lvOps f) (resP (lvOps f) n) s := if_neg (by omega)
        rw [e]
        unfold resBody
        generalize low (lvOps f) s = L at *
        rw [if_neg h4, if_neg (by simp [hsm]), if_neg (by omega), if_neg (by omega), if_neg (by omega)]
        unfold binT
        rw [hall n (by omega)]

/-- Parts with the lowest operator between them. -/
def jq : List (List Opd) → List Opd → List Opd
  | [], c => c
  | p :: ps, c => p ++ nmO [43] :: jq ps c
def plusPl : Nat → List (List Opd) → List Nat
  | _, [] => []
  | b, p :: ps => (b + p.length) :: plusPl (b + p.length + 1) ps
def NoPlus (f : Int) (q : List Opd) : Prop := ∀ x ∈ q, opOf (lvOps f) x = none ∨ ∃ o, opOf (lvOps f) x = some o ∧ 10 < o.prec
theorem jq_snoc (x : Opd) (c : List Opd) : ∀ ps, jq ps (c ++ [x]) = jq ps c ++ [x]
  | [] => rfl
  | p :: ps => by simp [jq, jq_snoc x c ps]
theorem jq_next : ∀ (ps : List (List Opd)) (c : List Opd), jq (ps ++ [c]) [] = jq ps c ++ [nmO [43]]
  | [], c => rfl
  | p :: ps, c => by simp [jq, jq_next ps c]
theorem jq_app (r : List Opd) : ∀ (ps : List (List Opd)) (c : List Opd), jq ps c ++ r = jq ps (c ++ r)
  | [], c => rfl
  | p :: ps, c => by simp [jq, jq_app r ps c]
theorem jq_len : ∀ (ps : List (List Opd)) (c : List Opd), ps.length + c.length ≤ (jq ps c).length
  | [], c => by simp [jq]
  | p :: ps, c => by have := jq_len ps c; simp only [jq, List.length_cons, List.length_append]; omega
theorem lowN_no (f : Int) : ∀ (q : List Opd) (st : LowS) (i : Nat), NoPlus f q → st.at_.length ≠ 0 → st.first.prec = 10 → lowN (lvOps f) st i q = st
  | [], st, i, _, _, _ => rfl
  | x :: q, st, i, hq, h1, h2 => by
    rw [lowN]
    have e : lowStep st i (opOf (lvOps f) x) = st := by
      rcases hq x List.mem_cons_self with e | ⟨o, e, ho⟩
      · rw [e]; rfl
      · rw [e]
        unfold lowStep
        simp only
        rw [if_neg (by omega), if_neg (by omega)]
    rw [e]
    exact lowN_no f q st (i + 1) (fun y hy => hq y (List.mem_cons_of_mem _ hy)) h1 h2
theorem lowN_hi (f : Int) : ∀ (q : List Opd) (st : LowS) (i : Nat), NoPlus f q → (st.at_.length = 0 ∨ 10 < st.first.prec) → ((lowN (lvOps f) st i q).at_.length = 0 ∨ 10 < (lowN (lvOps f) st i q).first.prec)
  | [], st, i, _, h => h
  | x :: q, st, i, hq, h => by
    rw [lowN]
    refine lowN_hi f q _ (i + 1) (fun y hy => hq y (List.mem_cons_of_mem _ hy)) ?_
    rcases hq x List.mem_cons_self with e | ⟨o, e, ho⟩
    · rw [e]; exact h
    · rw [e]
      unfold lowStep
      simp only
      split
      · exact .inr ho
      · split
        · right; simp only; omega
        · exact h
theorem step_plus (f : Int) (st : LowS) (i : Nat) (h : st.at_.length = 0 ∨ 10 < st.first.prec) : lowStep st i (some (lvPlus f)) = ⟨[i], lvPlus f, true⟩ := by
  unfold lowStep
  simp only
  exact if_pos h
theorem step_plus2 (f : Int) (at_ : List Nat) (i : Nat) (h : at_.length ≠ 0) : lowStep ⟨at_, lvPlus f, true⟩ i (some (lvPlus f)) = ⟨at_ ++ [i], lvPlus f, true⟩ := by
  unfold lowStep
  simp only
  rw [if_neg (by rintro (h' | h'); exact h h'; omega)]
  simp
theorem lowN_jq (f : Int) : ∀ (ps : List (List Opd)) (c : List Opd) (at_ : List Nat) (i : Nat), (∀ p ∈ ps, NoPlus f p) → NoPlus f c → at_.length ≠ 0 → lowN (lvOps f) ⟨at_, lvPlus f, true⟩ i (jq ps c) = ⟨at_ ++ plusPl i ps, lvPlus f, true⟩
  | [], c, at_, i, _, hc, h => by
    rw [jq, lowN_no f c _ i hc h rfl]
    simp [plusPl]
  | p :: ps, c, at_, i, hp, hc, h => by
    rw [jq, lowN_app, lowN_no f p _ i (hp p List.mem_cons_self) h rfl, lowN, lv_plus, step_plus2 f at_ _ h, lowN_jq f ps c _ _ (fun x hx => hp x (List.mem_cons_of_mem _ hx)) hc (by simp)]
    simp [plusPl]
theorem low_jq (f : Int) (p : List Opd) (ps : List (List Opd)) (c : List Opd) (hp : ∀ q ∈ p :: ps, NoPlus f q) (hc : NoPlus f c) : low (lvOps f) (jq (p :: ps) c) = ⟨plusPl 0 (p :: ps), lvPlus f, true⟩ := by
  unfold low
  rw [jq, lowN_app, lowN, lv_plus, step_plus f _ _ (lowN_hi f p lowZ 0 (hp p List.mem_cons_self) (.inl rfl)), lowN_jq f ps c _ _ (fun x hx => hp x (List.mem_cons_of_mem _ hx)) hc (by simp)]
  simp [plusPl]
theorem segs_jq (s : List Opd) : ∀ (ps : List (List Opd)) (c : List Opd) (b : Nat), s.drop b = jq ps c → segs s b (plusPl b ps ++ [s.length]) = ps ++ [c]
  | [], c, b, h => by
    simp only [plusPl, List.nil_append, segs, List.take_length, h]
    rfl
  | p :: ps, c, b, h => by
    have hd : s.drop (b + p.length + 1) = jq ps c := by
      rw [show b + p.length + 1 = b + (p.length + 1) by omega, ← List.drop_drop, h, jq]
      simp
    have h1 : (s.take (b + p.length)).drop b = p := by
      rw [List.drop_take, h, jq]
      simp
    rw [plusPl, List.cons_append, segs, h1, segs_jq s ps c _ hd]
    rfl
theorem ops_jq (s : List Opd) : ∀ (ps : List (List Opd)) (c : List Opd) (b : Nat), s.drop b = jq ps c → opTrees s (plusPl b ps) = ps.map (fun _ => nmT [43])
  | [], c, b, h => rfl
  | p :: ps, c, b, h => by
    have hd : s.drop (b + p.length + 1) = jq ps c := by
      rw [show b + p.length + 1 = b + (p.length + 1) by omega, ← List.drop_drop, h, jq]
      simp
    have h1 : s.getD (b + p.length) opdZ = nmO [43] := by
      have : s[b + p.length]? = (s.drop b)[p.length]? := by rw [List.getElem?_drop]
      rw [List.getD_eq_getElem?_getD, this, h, jq]
      simp
    have ih := ops_jq s ps c _ hd
    unfold opTrees at ih ⊢
    rw [plusPl, List.map_cons, List.map_cons, h1, ih]
    rfl
theorem resP_jq (f : Int) (hf : f = 4 ∨ f = 5) (n : Nat) (p : List Opd) (ps : List (List Opd)) (c : List Opd) (hp : ∀ q ∈ p :: ps, NoPlus f q) (hc : NoPlus f c) (ts : List Raw) (hall : allOk (resP (lvOps f) n) (p :: ps ++ [c]) = .ok ts) : resP (lvOps f) (n + 1) (jq (p :: ps) c) = .ok (joined f ((p :: ps).map fun _ => nmT [43]) ts) := by
  have hl := low_jq f p ps c hp hc
  have hs := segs_jq (jq (p :: ps) c) (p :: ps) c 0 rfl
  have ho := ops_jq (jq (p :: ps) c) (p :: ps) c 0 rfl
  have hlen : (jq (p :: ps) c).length ≠ 0 := by simp [jq]
  generalize jq (p :: ps) c = s at *
  have e : resP (lvOps f) (n + 1) s = resBody (lvOps f) (resP (lvOps f) n) s := if_neg hlen
  rw [e]
  unfold resBody
  rw [hl]
  have e1 : (lvPlus f).fix = f := rfl
  simp only [e1]
  rw [if_neg (by simp [plusPl]), if_neg (by simp), if_neg (by omega), if_neg (by omega), if_neg (by omega)]
  unfold binT
  rw [hs, hall]
  simp only
  rw [ho]
theorem alt_jq : ∀ (ps : List (List Opd)) (r : List Opd), AltP (jq ps r) → (∀ p ∈ ps, AltP p) ∧ AltP r
  | [], r, h => ⟨by simp, h⟩
  | p :: ps, r, h => by
    rw [jq] at h
    have hodd : p.length % 2 = 1 := by
      have h1 := h.2 p.length (nmO [43]) (by simp)
      rcases (show p.length % 2 = 0 ∨ p.length % 2 = 1 by omega) with h0 | h0
      · obtain ⟨n, hn, e⟩ := h1.1 h0
        have e' : n = [43] := by
          have := congrArg (fun x => x.tree.name) e
          exact this.symm
        subst e'
        exact (lvX_O hn (by simp [lvO])).elim
      · exact h0
    have hlen := h.1
    simp only [List.length_append, List.length_cons] at hlen
    have hp : AltP p := ⟨hodd, fun i x hx => by
      have hi : i < p.length := by
        rcases Nat.lt_or_ge i p.length with h' | h'
        · exact h'
        · rw [List.getElem?_eq_none h'] at hx; cases hx
      exact h.2 i x (by rw [List.getElem?_append_left hi]; exact hx)⟩
    have hr : AltP (jq ps r) := ⟨by omega, fun i x hx => by
      have := h.2 (p.length + (i + 1)) x (by rw [List.getElem?_append_right (by omega)]; simpa using hx)
      exact ⟨fun hi => this.1 (by omega), fun hi => this.2 (by omega)⟩⟩
    have ih := alt_jq ps r hr
    refine ⟨fun q hq => ?_, ih.2⟩
    rcases List.mem_cons.1 hq with rfl | hq
    · exact hp
    · exact ih.1 q hq
theorem alt_noplus (f : Int) {q : List Opd} (h : ∀ x ∈ q, ∃ n, (n ∈ lvX ∨ n ∈ lvO) ∧ x = nmO n ∧ n ≠ [43]) : NoPlus f q := fun x hx => by
  obtain ⟨n, hn, rfl, hne⟩ := h x hx
  rcases hn with hn | hn
  · exact .inl (lv_x f hn)
  · obtain ⟨o, _, e, hp⟩ := lv_o f hn
    exact .inr ⟨o, e, hp hne⟩
theorem wf_of {t : Raw} (h : t.form = true) (hs : t.size ≤ 128) : t.wf = 0 := by
  have := Raw.depth_le_size t.size t (Nat.le_refl _)
  unfold Raw.wf
  rw [h, if_neg (by simp), if_neg (by omega)]
theorem lv_bad (f : Int) (hf : f = 4 ∨ f = 5) : (lvOps f).any (fun o => decide (o.bad ≠ 0)) = false := by
  rcases hf with rfl | rfl <;> decide
/-- A chain resolves. -/
theorem lv_resolved (f : Int) (hf : f = 4 ∨ f = 5) (s : List Opd) (h : AltP s) (hl : s.length ≤ 41) : ∃ t : Raw, t.form = true ∧ t.size ≤ 123 ∧ resolved (lvOps f) s = (t, 0) ∧ ∀ n, s.length ≤ n → resP (lvOps f) n s = .ok t := by
  obtain ⟨t, ht, h1, hr⟩ := alt_ok f hf s.length s (Nat.le_refl _) h
  have hsz : t.size ≤ 123 := by
    have a := resP_size _ _ _ _ (hr s.length (Nat.le_refl _))
    have b := wsum_nm s (fun x hx => by obtain ⟨n, _, e⟩ := alt_mem h hx; exact ⟨n, e⟩)
    omega
  refine ⟨t, ht, hsz, ?_, hr⟩
  have hall : ∀ x ∈ s, x.arrow = true ∨ x.tree.wf = 0 := fun x hx => by
    obtain ⟨n, hn, rfl⟩ := alt_mem h hx
    refine .inr (wf_nm ?_)
    rcases hn with hn | hn
    · exact lvX_name hn
    · exact lvO_name hn
  unfold resolved
  rw [lv_bad f hf, any_wf 1 (by decide) _ hall, any_wf 2 (by decide) _ hall, if_neg (by simp), if_neg (by simp), if_neg (by simp)]
  by_cases hone : s.length = 1
  · rw [if_pos hone, h1 hone]
    obtain ⟨x, rfl⟩ := List.length_eq_one_iff.1 hone
    obtain ⟨k, hk, rfl⟩ := (h.2 0 x rfl).1 rfl
    have := lv_arrow (.inl hk)
    rw [if_neg (by show ¬ (nmO k).arrow = true; simp [this])]
  · rw [if_neg hone, hr _ (Nat.le_refl _)]
    simp only
    rw [if_pos (wf_of ht (by omega))]
def clO (f : Int) (q : List Opd) : Opd := ⟨(resolved (lvOps f) q).1, true⟩
theorem cl_op (f : Int) (q : List Opd) : opOf (lvOps f) (clO f q) = none := by
  unfold opOf
  rw [if_pos (by simp [clO])]
theorem cl_resP (f : Int) (n : Nat) (q : List Opd) : resP (lvOps f) (n + 1) [clO f q] = .ok (clO f q).tree := by
  have e : resP (lvOps f) (n + 1) [clO f q] = resBody (lvOps f) (resP (lvOps f) n) [clO f q] := if_neg (by simp)
  have e2 : low (lvOps f) [clO f q] = lowZ := by
    unfold low
    rw [lowN, cl_op]; rfl
  rw [e]
  unfold resBody
  rw [e2]
  rfl
theorem allOk_map (l : List Op) (n : Nat) (T : List Opd → Raw) : ∀ (Q : List (List Opd)), (∀ q ∈ Q, resP l n q = .ok (T q)) → allOk (resP l n) Q = .ok (Q.map T)
  | [], _ => rfl
  | q :: r, h => by
    rw [allOk, h q List.mem_cons_self]
    simp only
    rw [allOk_map l n T r (fun x hx => h x (List.mem_cons_of_mem _ hx))]
    rfl
theorem allOk_cl (f : Int) (n : Nat) : ∀ (Q : List (List Opd)), allOk (resP (lvOps f) (n + 1)) (Q.map fun q => [clO f q]) = .ok (Q.map fun q => (clO f q).tree)
  | [] => rfl
  | q :: r => by
    rw [List.map_cons, allOk, cl_resP]
    simp only
    rw [allOk_cl f n r]
    rfl
/-- The sequence with its parts in parentheses. -/
def lvK (f : Int) (ps : List (List Opd)) : List Opd := ps.flatMap fun q => [clO f q, nmO [43]]
theorem lvK_jq (f : Int) (c : List Opd) : ∀ ps, jq (ps.map fun q => [clO f q]) [clO f c] = lvK f ps ++ [clO f c]
  | [] => rfl
  | p :: ps => by
    rw [List.map_cons, jq, lvK_jq f c ps]
    rfl
theorem lvK_snoc (f : Int) (c : List Opd) (ps : List (List Opd)) : lvK f (ps ++ [c]) = lvK f ps ++ [clO f c] ++ [nmO [43]] := by simp [lvK]
theorem lvK_len (f : Int) : ∀ ps, (lvK f ps).length = 2 * ps.length
  | [] => rfl
  | p :: ps => by
    have := lvK_len f ps
    simp only [lvK, List.flatMap_cons, List.length_append, List.length_cons, List.length_nil] at this ⊢
    omega
theorem lv_closed (f : Int) (hf : f = 4 ∨ f = 5) (ps : List (List Opd)) (c : List Opd) (h : AltP (jq ps c)) (hl : (jq ps c).length ≤ 41) (hp : ∀ q ∈ ps, NoPlus f q) (hc : NoPlus f c) : resolved (lvOps f) (lvK f ps ++ [clO f c]) = resolved (lvOps f) (jq ps c) := by
  obtain ⟨hap, hac⟩ := alt_jq ps c h
  obtain ⟨t, ht, hsz, hr, hn⟩ := lv_resolved f hf _ h hl
  have hlen : ∀ q ∈ ps ++ [c], q.length ≤ (jq ps c).length ∧ (ps ≠ [] → q.length < (jq ps c).length) := by
    have : ∀ (ps : List (List Opd)) (c : List Opd), ∀ q ∈ ps ++ [c], q.length ≤ (jq ps c).length ∧ (ps ≠ [] → q.length < (jq ps c).length) := by
      intro ps
      induction ps with
      | nil => intro c q hq; simp at hq; subst hq; exact ⟨by simp [jq], fun h => absurd rfl h⟩
      | cons p ps ih =>
        intro c q hq
        simp only [jq, List.length_append, List.length_cons]
        rw [List.cons_append, List.mem_cons] at hq
        rcases hq with rfl | hq
        · exact ⟨by omega, fun _ => by omega⟩
        · have := (ih c q hq).1
          exact ⟨by omega, fun _ => by omega⟩
    exact this ps c
  have hat : ∀ q ∈ ps ++ [c], AltP q := fun q hq => by
    rcases List.mem_append.1 hq with hq | hq
    · exact hap q hq
    · simp at hq; subst hq; exact hac
  have hall : ∀ x ∈ lvK f ps ++ [clO f c], x.arrow = true ∨ x.tree.wf = 0 := fun x hx => by
    have hx' : (∃ q ∈ ps ++ [c], x = clO f q) ∨ x = nmO [43] := by
      simp only [lvK, List.mem_append, List.mem_flatMap, List.mem_cons, List.not_mem_nil, or_false] at hx
      rcases hx with ⟨q, hq, e | e⟩ | e
      · exact .inl ⟨q, by simp [hq], e⟩
      · exact .inr e
      · exact .inl ⟨c, by simp, e⟩
    rcases hx' with ⟨q, hq, rfl⟩ | rfl
    · obtain ⟨u, hu, hus, hur, _⟩ := lv_resolved f hf q (hat q hq) (by have := (hlen q hq).1; omega)
      refine .inr ?_
      show (resolved (lvOps f) q).1.wf = 0
      rw [hur]
      exact wf_of hu (show u.size ≤ 128 by omega)
    · exact .inr (wf_nm (by decide))
  rw [hr]
  unfold resolved
  rw [lv_bad f hf, any_wf 1 (by decide) _ hall, any_wf 2 (by decide) _ hall, if_neg (by simp), if_neg (by simp), if_neg (by simp)]
  cases ps with
  | nil =>
    rw [if_pos (by simp [lvK])]
    show (if (clO f c).arrow = true then (rawZ, (21 : Int)) else ((resolved (lvOps f) c).1, 0)) = _
    rw [if_neg (by simp [Opd.arrow, clO])]
    rw [show jq [] c = c from rfl] at hr
    rw [hr]
  | cons p ps =>
    have hK : (lvK f (p :: ps) ++ [clO f c]).length = 2 * ps.length + 2 + 1 := by rw [List.length_append, lvK_len]; simp; omega
    rw [if_neg (by omega), hK]
    have hT : ∀ q ∈ p :: ps ++ [c], resP (lvOps f) 41 q = .ok (clO f q).tree := fun q hq => by
      obtain ⟨u, hu, hus, hur, hun⟩ := lv_resolved f hf q (hat q hq) (by have := (hlen q hq).1; omega)
      rw [hun 41 (by have := (hlen q hq).1; omega)]
      show _ = Except.ok (resolved (lvOps f) q).1
      rw [hur]
    have e1 := resP_jq f hf 41 p ps c hp hc _ (allOk_map _ _ _ _ hT)
    rw [hn 42 (by omega)] at e1
    have hck : ∀ q : List Opd, NoPlus f [clO f q] := fun q x hx => by
      simp at hx; subst hx; exact .inl (cl_op f q)
    have e2 := resP_jq f hf (2 * ps.length + 1 + 1) [clO f p] (ps.map fun q => [clO f q]) [clO f c] (fun q hq => by
      rcases List.mem_cons.1 hq with rfl | hq
      · exact hck p
      · obtain ⟨y, _, rfl⟩ := List.mem_map.1 hq; exact hck y) (hck c) _ (by
        have := allOk_cl f (2 * ps.length + 1) (p :: ps ++ [c])
        simpa using this)
    have e3 := lvK_jq f c (p :: ps)
    rw [List.map_cons] at e3
    rw [e3] at e2
    rw [e2]
    simp only
    have e4 : joined f (List.map (fun _ => nmT [43]) ([clO f p] :: ps.map fun q => [clO f q])) (List.map (fun q => (clO f q).tree) (p :: ps ++ [c])) = t := by
      have := Except.ok.inj e1
      rw [this]
      simp only [List.map_cons, List.map_map]
      rfl
    simp only [List.cons_append, List.map_cons, List.map_append, List.map_map, List.map_nil] at e4 ⊢
    rw [e4, if_pos (wf_of ht (by omega))]
theorem lv_wsum (f : Int) (hf : f = 4 ∨ f = 5) (ps : List (List Opd)) (c : List Opd) (h : AltP (jq ps c)) (hl : (jq ps c).length ≤ 41) : wsum (lvK f ps ++ [clO f c]) ≤ 100000 := by
  have hsz : ∀ q, AltP q → q.length ≤ 41 → (clO f q).tree.size ≤ 123 := fun q hq hq' => by
    obtain ⟨u, _, hus, hur, _⟩ := lv_resolved f hf q hq hq'
    show (resolved (lvOps f) q).1.size ≤ 123
    rw [hur]; exact hus
  have key : ∀ (ps : List (List Opd)), (∀ p ∈ ps, AltP p ∧ p.length ≤ 41) → wsum (lvK f ps) ≤ 200 * ps.length := by
    intro ps
    induction ps with
    | nil => intro _; simp [lvK, wsum]
    | cons p ps ih =>
      intro hh
      have h1 := ih (fun q hq => hh q (List.mem_cons_of_mem _ hq))
      obtain ⟨h2, h3⟩ := hh p List.mem_cons_self
      have h4 := hsz p h2 h3
      have e : lvK f (p :: ps) = clO f p :: nmO [43] :: lvK f ps := rfl
      have e1 : (nmO [43]).tree.size = 1 := rfl
      rw [e, wsum, wsum, List.length_cons, e1]
      omega
  obtain ⟨hap, hac⟩ := alt_jq ps c h
  have hlen : ∀ (ps : List (List Opd)) (c : List Opd), (∀ q ∈ ps, q.length ≤ (jq ps c).length) ∧ c.length ≤ (jq ps c).length := by
    intro ps
    induction ps with
    | nil => intro c; simp [jq]
    | cons p ps ih =>
      intro c
      simp only [jq, List.length_append, List.length_cons]
      refine ⟨fun q hq => ?_, by have := (ih c).2; omega⟩
      rcases List.mem_cons.1 hq with rfl | hq
      · omega
      · have := (ih c).1 q hq; omega
  have h1 := key ps (fun p hp => ⟨hap p hp, by have := (hlen ps c).1 p hp; omega⟩)
  have h2 := hsz c hac (by have := (hlen ps c).2; omega)
  have h3 := jq_len ps c
  rw [wsum_app, wsum, wsum]
  omega
theorem jq_split (c r : List Opd) : ∀ ps : List (List Opd), jq ps (c ++ nmO [43] :: r) = jq (ps ++ [c]) r
  | [] => rfl
  | p :: ps => by simp [jq, jq_split c r ps]
theorem lev_s {s cur : List Opd} {ps : List (List Opd)} {k : Nat} (h : jq ps cur = s.take k) (hk : k < s.length) (hp : s[k] = nmO [43]) : s = jq (ps ++ [cur]) (s.drop (k + 1)) := by
  rw [← jq_split, ← jq_app, h, ← hp, ← List.drop_eq_getElem_cons hk, List.take_append_drop]
/-- The state of the law's loop: the parts behind, the part under way, the closed sequence. -/
def LevR (f : Int) (s : List Opd) (k : Nat) (ps : List (List Opd)) (cur K : List Opd) : Prop :=
  (∀ q ∈ ps, NoPlus f q) ∧ NoPlus f cur ∧ ((k ≤ s.length ∧ K = lvK f ps ∧ jq ps cur = s.take k) ∨ (k = s.length + 1 ∧ cur = [] ∧ ∃ c, NoPlus f c ∧ K = lvK f ps ++ [clO f c] ∧ jq ps c = s))
theorem LevR.start (f : Int) (s : List Opd) : LevR f s 0 [] [] [] :=
  ⟨by simp, (fun x h => by cases h), .inl ⟨Nat.zero_le _, rfl, by simp [jq]⟩⟩
theorem LevR.mid {f : Int} {s cur K : List Opd} {k : Nat} {ps : List (List Opd)} (h : LevR f s k ps cur K) (hk : k ≤ s.length) : K = lvK f ps ∧ jq ps cur = s.take k := by
  rcases h.2.2 with h1 | h1
  · exact h1.2
  · omega
theorem nop_nm (f : Int) {n : List UInt8} (hn : n ∈ lvX ∨ n ∈ lvO) (h : n ≠ [43]) : opOf (lvOps f) (nmO n) = none ∨ ∃ o, opOf (lvOps f) (nmO n) = some o ∧ 10 < o.prec := by
  rcases hn with hn | hn
  · exact .inl (lv_x f hn)
  · obtain ⟨o, _, e, hp⟩ := lv_o f hn
    exact .inr ⟨o, e, hp h⟩
theorem LevR.part {f : Int} {s cur K : List Opd} {k : Nat} {ps : List (List Opd)} {n : List UInt8} (h : LevR f s k ps cur K) (hk : k < s.length) (hs : s[k] = nmO n) (hn : n ∈ lvX ∨ n ∈ lvO) (hne : n ≠ [43]) : LevR f s (k + 1) ps (cur ++ [nmO n]) K := by
  obtain ⟨h1, h2⟩ := h.mid (by omega)
  refine ⟨h.1, fun x hx => ?_, .inl ⟨hk, h1, ?_⟩⟩
  · rcases List.mem_append.1 hx with hx | hx
    · exact h.2.1 x hx
    · simp at hx; subst hx; exact nop_nm f hn hne
  · rw [jq_snoc, h2, List.take_succ_eq_append_getElem hk, hs]
theorem LevR.plus {f : Int} {s cur K : List Opd} {k : Nat} {ps : List (List Opd)} (h : LevR f s k ps cur K) (hk : k < s.length) (hs : s[k] = nmO [43]) : LevR f s (k + 1) (ps ++ [cur]) [] (K ++ [clO f cur] ++ [nmO [43]]) := by
  obtain ⟨h1, h2⟩ := h.mid (by omega)
  refine ⟨fun q hq => ?_, (fun x hx => by cases hx), .inl ⟨hk, ?_, ?_⟩⟩
  · rcases List.mem_append.1 hq with hq | hq
    · exact h.1 q hq
    · simp at hq; subst hq; exact h.2.1
  · rw [h1, lvK_snoc]
  · rw [jq_next, h2, List.take_succ_eq_append_getElem hk, hs]
theorem LevR.last {f : Int} {s cur K : List Opd} {ps : List (List Opd)} (h : LevR f s s.length ps cur K) : LevR f s (s.length + 1) ps [] (K ++ [clO f cur]) := by
  obtain ⟨h1, h2⟩ := h.mid (Nat.le_refl _)
  rw [List.take_length] at h2
  exact ⟨h.1, (fun x hx => by cases hx), .inr ⟨rfl, rfl, cur, h.2.1, by rw [h1], h2⟩⟩
theorem LevR.alt {f : Int} {s cur K : List Opd} {k : Nat} {ps : List (List Opd)} (h : LevR f s k ps cur K) (hs : AltP s) (hk : k = s.length ∨ ∃ h : k < s.length, s[k] = nmO [43]) : AltP cur := by
  rcases hk with rfl | ⟨hk, e⟩
  · obtain ⟨_, h2⟩ := h.mid (Nat.le_refl _)
    rw [List.take_length] at h2
    rw [← h2] at hs
    exact (alt_jq ps cur hs).2
  · obtain ⟨_, h2⟩ := h.mid (by omega)
    have e2 := lev_s h2 hk e
    rw [e2] at hs
    exact (alt_jq _ _ hs).1 cur (by simp)
theorem LevR.bound {f : Int} {s cur K : List Opd} {k : Nat} {ps : List (List Opd)} (h : LevR f s k ps cur K) : cur.length ≤ s.length ∧ K.length ≤ 2 * s.length + 1 := by
  rcases h.2.2 with ⟨hk, rfl, h2⟩ | ⟨rfl, rfl, c, _, rfl, h2⟩
  · have h3 := jq_len ps cur
    have h4 := congrArg List.length h2
    rw [List.length_take] at h4
    rw [lvK_len]
    omega
  · have h3 := jq_len ps c
    rw [h2] at h3
    rw [List.length_append, lvK_len]
    simp only [List.length_cons, List.length_nil]
    omega
theorem LevR.fin {f : Int} {s cur K : List Opd} {ps : List (List Opd)} (hf : f = 4 ∨ f = 5) (h : LevR f s (s.length + 1) ps cur K) (hs : AltP s) (hl : s.length ≤ 41) : resolved (lvOps f) K = resolved (lvOps f) s ∧ wsum K ≤ 100000 := by
  rcases h.2.2 with ⟨hk, _⟩ | ⟨_, _, c, hc, rfl, h2⟩
  · omega
  · rw [← h2] at hs hl ⊢
    exact ⟨lv_closed f hf ps c hs hl h.1 hc, lv_wsum f hf ps c hs hl⟩
theorem lev_name {s : List Opd} (h : AltP s) {k : Nat} (hk : k < s.length) : ∃ n, (n ∈ lvX ∨ n ∈ lvO) ∧ s[k] = nmO n := alt_mem h (List.getElem_mem hk)
theorem lev_len {n : List UInt8} (h : n ∈ lvX ∨ n ∈ lvO) : n.length ≤ 1000000 := by
  have h1 : ∀ n ∈ lvX ++ lvO, n.length ≤ 1000000 := by decide
  exact h1 n (List.mem_append.2 h)
end Lfc

/- Rows of operands with their trees: the two rows of OperatorLevels. -/
set_option linter.unusedVariables false
set_option linter.unusedSimpArgs false
namespace Go.Proofs.YtkhfnkokdmoipaaDoor
open Go.RowKit Go.Maps Go.WideMaps

/-- The cells of operands, one behind the other. -/
def RowO (q : Nat → Prop) (w : World) : List Lfc.Opd → List Value → Prop
  | [], xs => xs = []
  | x :: r, xs => ∃ v0 v1 v2 v3 ys, xs = v0 :: v1 :: v2 :: v3 :: .bool x.closed :: ys ∧ TreeP q w x.tree v0 v1 v2 v3 ∧ RowO q w r ys
theorem RowO.keep {q q' : Nat → Prop} {w w' : World} (hk : ∀ b, q b → b < w.heap.size → w'.heap[b]? = w.heap[b]?) (hs : w.heap.size ≤ w'.heap.size) (hq : ∀ b, b < w.heap.size → q b → q' b) : ∀ {s : List Lfc.Opd} {xs : List Value}, RowO q w s xs → RowO q' w' s xs
  | [], xs, h => by rw [RowO] at h ⊢; exact h
  | x :: r, xs, h => by
    rw [RowO] at h ⊢
    obtain ⟨v0, v1, v2, v3, ys, rfl, ht, hr⟩ := h
    exact ⟨v0, v1, v2, v3, ys, rfl, TreeP.keep hk hs hq _ _ _ _ _ ht, hr.keep hk hs hq⟩
theorem RowO.append {q : Nat → Prop} {w : World} {us : List Lfc.Opd} {zs : List Value} (hz : RowO q w us zs) : ∀ {s : List Lfc.Opd} {xs : List Value}, RowO q w s xs → RowO q w (s ++ us) (xs ++ zs)
  | [], xs, h => by rw [RowO] at h; subst h; exact hz
  | x :: r, xs, h => by
    rw [RowO] at h
    obtain ⟨v0, v1, v2, v3, ys, rfl, ht, hr⟩ := h
    rw [List.cons_append, RowO]
    exact ⟨v0, v1, v2, v3, ys ++ zs, by simp, ht, RowO.append hz hr⟩
theorem RowO.one {q : Nat → Prop} {w : World} {x : Lfc.Opd} {v0 v1 v2 v3 : Value} (h : TreeP q w x.tree v0 v1 v2 v3) : RowO q w [x] [v0, v1, v2, v3, .bool x.closed] := ⟨v0, v1, v2, v3, [], rfl, h, rfl⟩
theorem RowO.get {q : Nat → Prop} {w : World} : ∀ {s : List Lfc.Opd} {xs : List Value} (i : Nat) (h : i < s.length), RowO q w s xs → ∃ v0 v1 v2 v3, xs[i * 5]? = some v0 ∧ xs[i * 5 + 1]? = some v1 ∧ xs[i * 5 + 2]? = some v2 ∧ xs[i * 5 + 3]? = some v3 ∧ xs[i * 5 + 4]? = some (.bool s[i].closed) ∧ TreeP q w s[i].tree v0 v1 v2 v3
  | [], _, _, hi, _ => by simp at hi
  | x :: r, xs, 0, _, h => by
    rw [RowO] at h
    obtain ⟨v0, v1, v2, v3, ys, rfl, ht, _⟩ := h
    exact ⟨v0, v1, v2, v3, rfl, rfl, rfl, rfl, rfl, ht⟩
  | x :: r, xs, i + 1, hi, h => by
    rw [RowO] at h
    obtain ⟨v0, v1, v2, v3, ys, rfl, _, hr⟩ := h
    have := hr.get i (by simpa using hi)
    rw [show (i + 1) * 5 = i * 5 + 1 + 1 + 1 + 1 + 1 by omega]
    simpa using this
theorem nmP {q : Nat → Prop} {w : World} (n : List UInt8) (hn : n.length ≤ 1000000) : TreeP q w (Lfc.nmT n) (.int .i64 1) (S n) (.int .i64 0) (.slice none 0 0) := by
  unfold Lfc.nmT
  first
    | (rw [TreeP]; exact ⟨rfl, rfl, hn, rfl, none, 0, rfl, Nat.le_refl _, fun h => absurd rfl h⟩)
    | (simp only [TreeP]; exact ⟨rfl, rfl, hn, rfl, none, 0, rfl, Nat.le_refl _, fun h => absurd rfl h⟩)
theorem RowO.opds {q : Nat → Prop} {w : World} {base c : Nat} {A : Option Addr} {s : List Lfc.Opd} {xs : List Value} (h : w.ownsRow base 42 5 (.slice A s.length c) s.length xs) (hr : RowO q w s xs) : OpdsAt w A s := fun hne => by
  rcases h.2 with ⟨_, h0⟩ | ⟨g, cap, cur, hv, hbg, hg, _⟩
  · exact absurd (List.length_eq_zero_iff.1 h0) hne
  · injection hv with e1 _ e3
    subst e1 e3
    have hc := own_cells h
    refine ⟨g, 0, rfl, lt_of_block hg, fun i hi => ?_⟩
    obtain ⟨v0, v1, v2, v3, c0, c1, c2, c3, c4, ht⟩ := hr.get i hi
    obtain ⟨k, n, p, us, A, c, hnd, rfl, rfl, rfl, rfl⟩ := ht.node4
    refine ⟨k, n, p, us, A, c, hnd, hc _ _ c0, hc _ _ c1, hc _ _ c2, hc _ _ c3, hc _ _ c4, ?_⟩
    rw [← hnd]
    exact TreeVP.toV ⟨_, _, _, _, rfl, ht⟩

/-- The rows closed and part. -/
structure LevI (w1 : World) (K cur : List Lfc.Opd) (vc vp : Value) (xs : List Value) (W : World) : Prop where
  bel : Below w1.heap.size w1 W
  own : W.ownsRow w1.heap.size 42 5 vc K.length xs
  row : RowO (fun b => some b ≠ vc.ownBlock ∧ some b ≠ vp.ownBlock) W K xs
  part : W.ownsRow w1.heap.size 42 5 vp cur.length (nCells cur)
  ne : vp.ownBlock = none ∨ vp.ownBlock ≠ vc.ownBlock
theorem LevI.start (w1 : World) : LevI w1 [] [] (.slice none 0 0) (.slice none 0 0) [] w1 :=
  ⟨Below.refl _ _, own_nil _ _ _ _, by rw [RowO], own_nil _ _ _ _, .inl rfl⟩
theorem LevI.new {w1 W W' : World} {K cur : List Lfc.Opd} {vc vp : Value} {xs : List Value} (h : LevI w1 K cur vc vp xs W) (hb : Below W.heap.size W W') : LevI w1 K cur vc vp xs W' :=
  ⟨h.bel.trans (hb.mono h.bel.size), own_below h.own hb, h.row.keep (fun b _ hl => hb.block b hl) hb.size (fun _ _ h => h), own_below h.part hb, h.ne⟩
theorem LevI.pushP {w1 W w' : World} {K cur : List Lfc.Opd} {vc vp v' : Value} {xs : List Value} {m : List UInt8} (h : LevI w1 K cur vc vp xs W) (hg : W.grownBy w' vp.ownBlock) (ho : w'.ownsRow w1.heap.size 42 5 v' (cur.length + 1) (nCells cur ++ nC m)) (hl : v'.ownBlock = vp.ownBlock ∨ v'.ownBlock = some W.heap.size) : LevI w1 K (cur ++ [Lfc.nmO m]) vc v' xs w' := by
  have hne : vc.ownBlock = none ∨ vc.ownBlock ≠ vp.ownBlock := by
    rcases h.ne with e | e
    · rw [e]
      cases vc.ownBlock with
      | none => exact .inl rfl
      | some k => exact .inr (by simp)
    · exact .inr (fun e' => e e'.symm)
  refine ⟨h.bel.grown hg h.bel.size (fun k hk => (h.part.lt k hk).1), h.own.kept hg hne, ?_, ?_, ?_⟩
  · refine h.row.keep (fun b hb hlt => hg.block b hlt hb.2) hg.size (fun b hlt hb => ⟨hb.1, ?_⟩)
    rcases hl with e | e
    · rw [e]; exact hb.2
    · rw [e]; intro e'; have := Option.some.inj e'; omega
  · rw [nCells_app, List.length_append]; exact ho
  · rcases hl with e | e
    · rw [e]; exact h.ne
    · refine .inr ?_
      rw [e]
      intro e'
      have := (h.own.lt _ e'.symm).2
      omega
theorem LevI.pushK {w1 W w' : World} {K cur : List Lfc.Opd} {vc vp v' v0 v1 v2 v3 : Value} {xs : List Value} {x : Lfc.Opd} (h : LevI w1 K cur vc vp xs W) (hg : W.grownBy w' vc.ownBlock) (ho : w'.ownsRow w1.heap.size 42 5 v' (K.length + 1) (xs ++ [v0, v1, v2, v3, .bool x.closed])) (hl : v'.ownBlock = vc.ownBlock ∨ v'.ownBlock = some W.heap.size) (ht : TreeP (fun b => some b ≠ vc.ownBlock) W x.tree v0 v1 v2 v3) : LevI w1 (K ++ [x]) [] v' (.slice none 0 0) (xs ++ [v0, v1, v2, v3, .bool x.closed]) w' := by
  have hq : ∀ b, b < W.heap.size → some b ≠ vc.ownBlock → some b ≠ v'.ownBlock ∧ some b ≠ (Value.slice none 0 0).ownBlock := fun b hlt hb => by
    refine ⟨?_, by simp [Value.ownBlock]⟩
    rcases hl with e | e
    · rw [e]; exact hb
    · rw [e]; intro e'; have := Option.some.inj e'; omega
  refine ⟨h.bel.grown hg h.bel.size (fun k hk => (h.own.lt k hk).1), by rw [List.length_append]; exact ho, ?_, own_nil _ _ _ _, .inl rfl⟩
  exact RowO.append (RowO.one (TreeP.keep (fun b hb hlt => hg.block b hlt hb) hg.size hq _ _ _ _ _ ht)) (h.row.keep (fun b hb hlt => hg.block b hlt hb.1) hg.size (fun b hlt hb => hq b hlt hb.1))
end Go.Proofs.YtkhfnkokdmoipaaDoor

/- The contract of lfcheckmade.Ops. -/
set_option linter.unusedVariables false
set_option linter.unusedSimpArgs false
namespace Lfc
def precs : List Int := [0, 10, 10, 20, 99]
end Lfc
namespace Go.Proofs.YtkhfnkokdmoipaaDoor
open Go.RowKit Go.Maps Go.WideMaps
attribute [local go_sem ↓] Go.wp_at_zero Go.wp_at_succ

theorem op_infoM : ∃ i, Tryd.prog.info? 36 = some i ∧ i.zero = some (.agg #[S [], .int .i64 0, .int .i64 0]) ∧ i.size = 3 ∧ i.bytes = 32 := by
  obtain ⟨i0, hi, hz0, hz1, hz2⟩ := info_parts (show (Tryd.prog.info? 36).map (fun i => (i.zero, i.size, i.bytes)) = some (some (.agg #[S [], .int .i64 0, .int .i64 0]), 3, 32) by kernel_rfl)
  exact ⟨i0, hi, hz0, hz1, hz2⟩
theorem precs_cell (w : World) (k : Nat) (h : k < 5) : (w.alloc (.cells #[.int .i64 0, .int .i64 10, .int .i64 10, .int .i64 20, .int .i64 99] 3)).cell? ⟨w.heap.size, k, none⟩ = some (.int .i64 (Lfc.precs.getD k 0)) := by
  have q := heap_alloc_new w (.cells #[.int .i64 0, .int .i64 10, .int .i64 10, .int .i64 20, .int .i64 99] 3)
  match k, h with
  | 0, _ => exact Lib.cell_of_heap q 0
  | 1, _ => exact Lib.cell_of_heap q 1
  | 2, _ => exact Lib.cell_of_heap q 2
  | 3, _ => exact Lib.cell_of_heap q 3
  | 4, _ => exact Lib.cell_of_heap q 4
/-- The loop of Ops. -/
structure MadeO (w : World) (T : Nat) (l : List Lfc.Op) (v : Value) (wr : World) : Prop where
  tape : TapeAt T wr
  oth : Oth T w wr
  own : wr.ownsRow w.heap.size 36 3 v l.length (opCells l)
  names : ∀ o ∈ l, o.name.length ≤ 1000000
theorem MadeO.low {w wr W w' : World} {T : Nat} {l : List Lfc.Op} {v : Value} {o : Obj} (h : MadeO w T l v wr) (ho : Oth T wr W) (hg : (W.alloc o).grownBy w' v.ownBlock) : Below w.heap.size (W.alloc o) w' :=
  ⟨hg.os, hg.tape, hg.output, hg.size, fun k hk => hg.block k (by have := h.oth.size; have := ho.size; simp; omega) (fun e => by have := (h.own.lt k e.symm).1; omega)⟩
theorem MadeO.step {w wr W w' : World} {T : Nat} {l : List Lfc.Op} {v v' : Value} {o : Obj} {x : Lfc.Op} (h : MadeO w T l v wr) (hT : T < w.heap.size) (hTW : TapeAt T W) (ho : Oth T wr W) (hg : (W.alloc o).grownBy w' v.ownBlock) (hown : w'.ownsRow w.heap.size 36 3 v' (l.length + 1) (opCells l ++ [S x.name, .int .i64 x.fix, .int .i64 x.prec])) (hx : x.name.length ≤ 1000000) : MadeO w T (l ++ [x]) v' w' := by
  have hlt := hTW.lt
  have hb : Below w.heap.size (W.alloc o) w' := ⟨hg.os, hg.tape, hg.output, hg.size, fun k hk => hg.block k (by have := h.oth.size; have := ho.size; simp; omega) (fun e => by have := (h.own.lt k e.symm).1; omega)⟩
  have hTb : T < W.heap.size := hlt
  have e : opCells (l ++ [x]) = opCells l ++ [S x.name, .int .i64 x.fix, .int .i64 x.prec] := by rw [opCells_app]; rfl
  refine ⟨?_, (h.oth.trans (ho.trans (Oth.of_below ((Below.refl _ _).alloc (Nat.le_refl _) _)))).of_new hb, by rw [e, List.length_append]; exact hown, fun y hy => ?_⟩
  · have hTA := hTW.below ((Below.refl W.heap.size W).alloc (Nat.le_refl _) o)
    obtain ⟨wb, wo, wc, h1, h2, h3, h4⟩ := hTA.words
    obtain ⟨A, n, c, i, ht, hi, hn, hc⟩ := hTA.t
    have hsz := h.oth.size
    have hsz2 := ho.size
    refine ⟨⟨A, n, c, i, (hb.block T hT).trans ht, hi, hn, fun hp => ?_⟩, ⟨wb, wo, wc, (hb.cell (p := ⟨_, 0, none⟩) (by simp only; omega)).trans h1, h2, h3, fun k hk => (hb.cell (p := ⟨wb, wo + k, none⟩) (by simp only; omega)).trans (h4 k hk)⟩⟩
    obtain ⟨b, o, hA, hbT, hx⟩ := hc hp
    refine ⟨b, o, hA, hbT, fun k hk => ?_⟩
    obtain ⟨x, hx⟩ := hx k hk
    exact ⟨x, (hb.cell (p := ⟨b, o + k, none⟩) (by simp only; omega)).trans hx⟩
  · rcases List.mem_append.1 hy with hy | hy
    · exact h.names y hy
    · simp at hy; subst hy; exact hx
/-- What Ops leaves. -/
def OpsPost (w : World) (T : Nat) (e : Ending) (w' : World) : Prop := ∃ l A c, e = .returned (.slice A l.length c) ∧ MadeO w T l (.slice A l.length c) w' ∧ l.length ≤ 4

set_option maxRecDepth 100000 in
set_option maxHeartbeats 8000000 in
theorem madeOps_any (T : Nat) (w : World) (h : TapeAt T w) :
    Calls Tryd.prog 6 #[.pointer (some ⟨T, 0, none⟩)] w (OpsPost w T) := by
  obtain ⟨it, hi, hz0, hz1, hz2⟩ := op_infoM
  have hTw := h.lt
  have M0 : Hid (MadeO w T [] (.slice none 0 0) w) := Lib.hid ⟨h, Oth.refl _ _, own_nil _ _ _ _, by simp⟩
  clear h
  go_enter Tryd.func6, Tryd.ntmps6
  go_wp2_with fail
  go_loopw [3, 4] (fun v i wr => ∃ (k : Nat) (l : List Lfc.Op) (A : Option Addr) (c : Nat), k ≤ 4 ∧ l.length ≤ k ∧ i = .int .i64 k ∧ v = .slice A l.length c ∧ Hid (MadeO w T l (.slice A l.length c) wr)) (fun _ i _ => 4 - (intOf i).toNat)
  case atStart => exact ⟨0, [], none, 0, by omega, by simp, rfl, rfl, M0⟩
  case round =>
    obtain ⟨k, l, A, c, hk, hlk, rfl, rfl, HI⟩ := hrel
    by_cases hlt : k < 4
    · have hd0 : (k : Int) < 4 := by omega
      go_wp2_with fail
      refine (tapeNext_any T 3 _ (by omega) (by omega) HI.out.tape).mono ?_
      rintro e w1 ⟨⟨r, hr, rfl⟩, t1, o1⟩
      have hTow : (Value.slice A l.length c).ownBlock = some T → False := fun e => by have := (HI.out.own.lt T e).1; omega
      have M1 : Hid (MadeO w T l (.slice A l.length c) w1) := Lib.hid ⟨t1, HI.out.oth.trans o1, HI.out.own.kept o1 (Or.inr hTow), HI.out.names⟩
      have HTOW := Lib.hid hTow
      clear t1 o1 HI hTow
      by_cases hr0 : r = 0
      · subst hr0
        go_wp2_with fail
        go_roundw
        case rel => exact ⟨k + 1, l, A, c, by omega, by omega, by go_num, rfl, M1⟩
        case measure => simp [intOf]; omega
      · have hd1 : (0 : Int) < (r : Int) := by omega
        have hd2 : (r : Int) > 0 := by omega
        obtain ⟨wb, wo, wc, hw1, hw2, hw3, hw4⟩ := M1.out.tape.words
        have hk4 := hw4 (4 + k) (by omega)
        have hnl := Lfc.words_len (4 + k)
        generalize Lfc.words.getD (4 + k) [] = nm at *
        have hT1 := M1.out.tape.lt
        have hs1 := M1.out.oth.size
        have SC := Lib.hid (show ∀ W, Oth T w1 W → W.cell? ⟨0, 0, none⟩ = some (.slice (some ⟨wb, wo, none⟩) 13 wc) ∧ W.cell? ⟨wb, wo + (4 + k), none⟩ = some (S nm) from fun W ho => ⟨(ho.cell (p := ⟨_, 0, none⟩) (by simp only; omega) (by simp only; omega)).trans hw1, (ho.cell (p := ⟨wb, _, none⟩) (by simp only; omega) (by simp only; omega)).trans hk4⟩)
        have hi0 : IntKind.i64.wrap (4 + (k : Int)) = 4 + (k : Int) := IntWalk.i64_in _ (by omega)
        have hi1 : (0 : Int) ≤ 4 + (k : Int) := by omega
        have hi2 : 4 + (k : Int) < 13 := by omega
        have hi3 : (4 + (k : Int)).toNat = 4 + k := by omega
        have G0 : Oth T w1 w1.drew := (Oth.refl _ _).drew
        have T0 := Lib.hid (M1.out.tape.below ((Below.refl w1.heap.size w1).drew))
        have NX := Lib.hid (fun W (hW : TapeAt T W) => tapeNext_any T 5 W (by omega) (by omega) hW)
        have HNL := Lib.hid hnl
        have PC := Lib.hid precs_cell
        have OWN := Lib.hid (fun W (ho : Oth T w1 W) => M1.out.own.kept ho (Or.inr HTOW.out))
        have hlm : l.length + 1 ≤ maxLen := by unfold maxLen; omega
        have hl32 : (l.length + 1) * 32 ≤ 140737488355328 := by omega
        have hT1w : w.heap.size ≤ w1.heap.size := hs1
        clear hw1 hw4 hk4 hnl
        go_wp2_with fail
        refine wp_region_held_drew (S := fun W => W.cell? ⟨0, 0, none⟩ = some (.slice (some ⟨wb, wo, none⟩) 13 wc) ∧ W.cell? ⟨wb, wo + (4 + k), none⟩ = some (S nm)) (by kernel_rfl) ?_ (fun hHeld => ?_)
        · exact SC.out _ G0
        refine wpAnyH_take (i := 0) (v := ?_) rfl (by kernel_rfl) (by kernel_rfl) (by kernel_rfl) (fun _ _ _ h => h) (Or.inl ⟨by rfl, ?_⟩) (by assumption) ?_
        rotate_left
        · (intro w hSw; (try dsimp only at hSw); go_simp; try with_reducible rfl)
        try simp only [Act.put, List.setIfInBounds_toArray, List.set_cons_zero, List.set_cons_succ]
        refine wpAnyH_take (i := 1) (v := ?_) rfl (by kernel_rfl) (by kernel_rfl) (by kernel_rfl) (fun _ _ _ h => h) (Or.inl ⟨by rfl, ?_⟩) (by assumption) ?_
        rotate_left
        · (intro w hSw; (try dsimp only at hSw); go_simp; try with_reducible rfl)
        try simp only [Act.put, List.setIfInBounds_toArray, List.set_cons_zero, List.set_cons_succ]
        refine wpAnyH_take (i := 2) (v := ?_) rfl (by kernel_rfl) (by kernel_rfl) (by kernel_rfl) (fun _ _ _ h => h) (Or.inl ⟨by rfl, ?_⟩) (by assumption) ?_
        rotate_left
        · (intro w hSw; (try dsimp only at hSw); go_simp; try with_reducible rfl)
        try simp only [Act.put, List.setIfInBounds_toArray, List.set_cons_zero, List.set_cons_succ]
        refine wpAnyH_take (i := 3) (v := ?_) rfl (by kernel_rfl) (by kernel_rfl) (by kernel_rfl) (fun _ _ _ h => h) (Or.inl ⟨by rfl, ?_⟩) (by assumption) ?_
        rotate_left
        · (intro w hSw; (try dsimp only at hSw); go_simp; try with_reducible rfl)
        try simp only [Act.put, List.setIfInBounds_toArray, List.set_cons_zero, List.set_cons_succ]
        refine wpAnyH_take (i := 4) (v := ?_) rfl (by kernel_rfl) (by kernel_rfl) (by kernel_rfl) (fun _ _ _ h => h) (Or.inl ⟨by rfl, ?_⟩) (by assumption) ?_
        rotate_left
        · (intro w hSw; (try dsimp only at hSw); go_simp; try with_reducible rfl)
        try simp only [Act.put, List.setIfInBounds_toArray, List.set_cons_zero, List.set_cons_succ]
        refine wpAnyH_take (i := 5) (v := ?_) rfl (by kernel_rfl) (by kernel_rfl) (by kernel_rfl) (fun _ _ _ h => h) (Or.inl ⟨by rfl, ?_⟩) (by assumption) ?_
        rotate_left
        · (intro w hSw; (try dsimp only at hSw); go_simp; try with_reducible rfl)
        try simp only [Act.put, List.setIfInBounds_toArray, List.set_cons_zero, List.set_cons_succ]
        refine wpAnyH_take (i := 6) (v := ?_) rfl (by kernel_rfl) (by kernel_rfl) (by kernel_rfl) (fun _ _ _ h => h) (Or.inl ⟨by rfl, ?_⟩) (by assumption) ?_
        rotate_left
        · (intro w hSw; (try dsimp only at hSw); go_simp; try with_reducible rfl)
        try simp only [Act.put, List.setIfInBounds_toArray, List.set_cons_zero, List.set_cons_succ]
        refine wpAnyH_take (i := 10) (v := ?_) rfl (by kernel_rfl) (by kernel_rfl) (by kernel_rfl) (fun _ _ _ h => h) (Or.inl ⟨by rfl, ?_⟩) (by assumption) ?_
        rotate_left
        · (intro w hSw; (try dsimp only at hSw); go_simp; try with_reducible rfl)
        try simp only [Act.put, List.setIfInBounds_toArray, List.set_cons_zero, List.set_cons_succ]
        refine wpAnyH_ready (rs := [7, 9]) (by kernel_rfl) (by simp) ?_
        refine AllReadyH.cons rfl (fun K hK => ?_) ?_
        · go_simp
          go_at_call 14
          refine (NX.out _ T0.out).mono ?_
          rintro e w5 ⟨⟨r1, hr1, rfl⟩, tw5, ow5⟩
          have oow5 := G0.trans ow5
          have hr1a : (0 : Int) ≤ 1 + (r1 : Int) := by omega
          have hr1b : IntKind.i64.wrap (1 + (r1 : Int)) = 1 + (r1 : Int) := IntWalk.i64_in _ (by omega)
          refine hK.out _ _ ?_ (fun hHeld => ?_)
          · (try dsimp only)
            exact SC.out _ oow5
          clear hK K
          try simp only [Act.put, List.setIfInBounds_toArray, List.set_cons_zero, List.set_cons_succ]
          refine wpAnyH_take (i := 8) (v := ?_) rfl (by kernel_rfl) (by kernel_rfl) (by kernel_rfl) (fun _ _ _ h => h) (Or.inl ⟨by rfl, ?_⟩) (by assumption) ?_
          rotate_left
          · (intro w hSw; (try dsimp only at hSw); go_simp; try with_reducible rfl)
          try simp only [Act.put, List.setIfInBounds_toArray, List.set_cons_zero, List.set_cons_succ]
          refine wpAnyH_ready (rs := [9, 11]) (by kernel_rfl) (by simp) ?_
          refine AllReadyH.cons rfl (fun K hK => ?_) ?_
          · go_simp
            refine hK.out _ _ ?_ (fun hHeld => ?_)
            · (try dsimp only)
              exact SC.out _ (oow5.trans (Oth.of_below ((Below.refl _ _).alloc (Nat.le_refl _) (.cells #[.int .i64 0, .int .i64 10, .int .i64 10, .int .i64 20, .int .i64 99] 3))))
            clear hK K
            try simp only [Act.put, List.setIfInBounds_toArray, List.set_cons_zero, List.set_cons_succ]
            refine wpAnyH_ready (rs := [11]) (by kernel_rfl) (by simp) ?_
            refine AllReadyH.cons rfl (fun K hK => ?_) ?_
            · go_simp
              go_at_call 14
              refine (NX.out _ (tw5.below ((Below.refl _ _).alloc (Nat.le_refl _) _))).mono ?_
              rintro e w6 ⟨⟨r2, hr2, rfl⟩, tw6, ow6⟩
              have oow6 := (oow5.trans (Oth.of_below ((Below.refl _ _).alloc (Nat.le_refl _) (.cells #[.int .i64 0, .int .i64 10, .int .i64 10, .int .i64 20, .int .i64 99] 3)))).trans ow6
              have hr2a : (0 : Int) ≤ (r2 : Int) := by omega
              have hr2b : (r2 : Int) < 5 := by omega
              refine hK.out _ _ ?_ (fun hHeld => ?_)
              · (try dsimp only)
                exact SC.out _ oow6
              clear hK K
              try simp only [Act.put, List.setIfInBounds_toArray, List.set_cons_zero, List.set_cons_succ]
              have xt : w6.cell? ⟨w5.heap.size, r2, none⟩ = some (.int .i64 (Lfc.precs.getD r2 0)) := (ow6.cell (p := ⟨w5.heap.size, r2, none⟩) (by simp) (by have := tw5.lt; simp only; omega)).trans (PC.out w5 r2 hr2)
              generalize Lfc.precs.getD r2 0 = pr at *
              refine wpAnyH_take (i := 12) (v := ?_) rfl (by kernel_rfl) (by kernel_rfl) (by kernel_rfl) (fun _ _ _ h => h) (Or.inl ⟨by rfl, ?_⟩) (by assumption) ?_
              rotate_left
              · (intro w hSw; (try dsimp only at hSw); go_simp; try with_reducible rfl)
              try simp only [Act.put, List.setIfInBounds_toArray, List.set_cons_zero, List.set_cons_succ]
              refine wpAnyH_ready (rs := [13]) (by kernel_rfl) (by simp) ?_
              refine AllReadyH.cons rfl (fun K hK => ?_) ?_
              · go_simp
                refine hK.out _ _ ?_ (fun hHeld => ?_)
                · (try dsimp only)
                  exact SC.out _ oow6
                clear hK K
                try simp only [Act.put, List.setIfInBounds_toArray, List.set_cons_zero, List.set_cons_succ]
                refine wpAnyH_take (i := 14) (v := ?_) rfl (by kernel_rfl) (by kernel_rfl) (by kernel_rfl) (fun _ _ _ h => h) (Or.inl ⟨by rfl, ?_⟩) (by assumption) ?_
                rotate_left
                · (intro w hSw; (try dsimp only at hSw); go_simp; try with_reducible rfl)
                try simp only [Act.put, List.setIfInBounds_toArray, List.set_cons_zero, List.set_cons_succ]
                refine wpAnyH_ready (rs := [15]) (by kernel_rfl) (by simp) ?_
                refine AllReadyH.cons rfl (fun K hK => ?_) ?_
                · go_simp
                  refine hK.out _ _ ?_ (fun hHeld => ?_)
                  · (try dsimp only)
                    exact SC.out _ (oow6.trans (Oth.of_below ((Below.refl _ _).alloc (Nat.le_refl _) _)))
                  clear hK K
                  try simp only [Act.put, List.setIfInBounds_toArray, List.set_cons_zero, List.set_cons_succ]
                  refine wpAnyH_ready (rs := [16]) (by kernel_rfl) (by simp) ?_
                  refine AllReadyH.cons rfl (fun K hK => ?_) ?_
                  · refine step_append_own_at _ (by rfl) _ _ 23 (by rfl) w.heap.size 36 it (.agg #[S [], .int .i64 0, .int .i64 0]) 3 32 Tryd.underlying23 hi hz0 hz1 hz2 rfl (by decide) _ _ _ (by rfl) ((OWN.out _ oow6).alloc _) ⟨w6.heap.size, 0, none⟩ 1 1 [S nm, .int .i64 (1 + (r1 : Int)), .int .i64 pr] (by rfl) (by rfl) (fun j u h => cells_new _ _ (by simp) [S nm, .int .i64 (1 + (r1 : Int)), .int .i64 pr] _ j u h) (by intro u hu; simp at hu; rcases hu with rfl | rfl | rfl <;> rfl) hlm hl32 (alloc_le (Nat.le_trans hT1w oow6.size)) ?_
                    intro v' w9 hown9 hg9 _
                    obtain ⟨A9, c9, rfl⟩ := own_form hown9
                    have HLN : (l ++ [(⟨nm, 1 + (r1 : Int), pr⟩ : Lfc.Op)]).length = l.length + 1 := by simp
                    have M9 : Hid (MadeO w T (l ++ [⟨nm, 1 + (r1 : Int), pr⟩]) (.slice A9 (l ++ [(⟨nm, 1 + (r1 : Int), pr⟩ : Lfc.Op)]).length c9) w9) := Lib.hid (by rw [HLN]; exact M1.out.step (x := ⟨nm, 1 + (r1 : Int), pr⟩) hTw tw6 oow6 hg9 hown9 (by have := HNL.out; simp only; omega))
                    have hb9 := M1.out.low oow6 hg9
                    refine hK.out _ _ ?_ (fun hHeld => ?_)
                    · (try dsimp only)
                      (have e := SC.out _ (oow6.trans (Oth.of_below ((Below.refl _ _).alloc (Nat.le_refl _) (.cells #[S nm, .int .i64 (1 + (r1 : Int)), .int .i64 pr] 36)))); exact ⟨(hb9.cell (p := ⟨_, 0, none⟩) (by simp only; omega)).trans e.1, (hb9.cell (p := ⟨wb, _, none⟩) (by simp only; omega)).trans e.2⟩)
                    clear hK K
                    try simp only [Act.put, List.setIfInBounds_toArray, List.set_cons_zero, List.set_cons_succ]
                    clear hown9 hg9 hb9
                    refine wpAnyH_take (i := 17) (v := ?_) rfl (by kernel_rfl) (by kernel_rfl) (by kernel_rfl) (fun _ _ _ h => h) (Or.inl ⟨by rfl, ?_⟩) (by assumption) ?_
                    rotate_left
                    · (intro w hSw; (try dsimp only at hSw); go_simp; try with_reducible rfl)
                    try simp only [Act.put, List.setIfInBounds_toArray, List.set_cons_zero, List.set_cons_succ]
                    refine wpAnyH_done (by kernel_rfl) ?_ _
                    go_wp2_with fail
                    go_roundw
                    case rel => exact ⟨k + 1, l ++ [⟨nm, 1 + (r1 : Int), pr⟩], A9, c9, by omega, by simp; omega, by go_num, by simp, M9⟩
                    case measure => simp [intOf]; omega
                  exact AllReadyH.nil
                exact AllReadyH.nil
              exact AllReadyH.nil
            exact AllReadyH.nil
          refine AllReadyH.cons rfl (fun K hK => ?_) ?_
          · go_simp
            go_at_call 14
            refine (NX.out _ tw5).mono ?_
            rintro e w6 ⟨⟨r2, hr2, rfl⟩, tw6, ow6⟩
            have oow6 := oow5.trans ow6
            have hr2a : (0 : Int) ≤ (r2 : Int) := by omega
            have hr2b : (r2 : Int) < 5 := by omega
            refine hK.out _ _ ?_ (fun hHeld => ?_)
            · (try dsimp only)
              exact SC.out _ oow6
            clear hK K
            try simp only [Act.put, List.setIfInBounds_toArray, List.set_cons_zero, List.set_cons_succ]
            refine wpAnyH_ready (rs := [9]) (by kernel_rfl) (by simp) ?_
            refine AllReadyH.cons rfl (fun K hK => ?_) ?_
            · go_simp
              refine hK.out _ _ ?_ (fun hHeld => ?_)
              · (try dsimp only)
                exact SC.out _ (oow6.trans (Oth.of_below ((Below.refl _ _).alloc (Nat.le_refl _) (.cells #[.int .i64 0, .int .i64 10, .int .i64 10, .int .i64 20, .int .i64 99] 3))))
              clear hK K
              try simp only [Act.put, List.setIfInBounds_toArray, List.set_cons_zero, List.set_cons_succ]
              have xt : (w6.alloc (.cells #[.int .i64 0, .int .i64 10, .int .i64 10, .int .i64 20, .int .i64 99] 3)).cell? ⟨w6.heap.size, r2, none⟩ = some (.int .i64 (Lfc.precs.getD r2 0)) := PC.out w6 r2 hr2
              generalize Lfc.precs.getD r2 0 = pr at *
              refine wpAnyH_take (i := 12) (v := ?_) rfl (by kernel_rfl) (by kernel_rfl) (by kernel_rfl) (fun _ _ _ h => h) (Or.inl ⟨by rfl, ?_⟩) (by assumption) ?_
              rotate_left
              · (intro w hSw; (try dsimp only at hSw); go_simp; try with_reducible rfl)
              try simp only [Act.put, List.setIfInBounds_toArray, List.set_cons_zero, List.set_cons_succ]
              refine wpAnyH_ready (rs := [13]) (by kernel_rfl) (by simp) ?_
              refine AllReadyH.cons rfl (fun K hK => ?_) ?_
              · go_simp
                refine hK.out _ _ ?_ (fun hHeld => ?_)
                · (try dsimp only)
                  exact SC.out _ (oow6.trans (Oth.of_below ((Below.refl _ _).alloc (Nat.le_refl _) (.cells #[.int .i64 0, .int .i64 10, .int .i64 10, .int .i64 20, .int .i64 99] 3))))
                clear hK K
                try simp only [Act.put, List.setIfInBounds_toArray, List.set_cons_zero, List.set_cons_succ]
                refine wpAnyH_take (i := 14) (v := ?_) rfl (by kernel_rfl) (by kernel_rfl) (by kernel_rfl) (fun _ _ _ h => h) (Or.inl ⟨by rfl, ?_⟩) (by assumption) ?_
                rotate_left
                · (intro w hSw; (try dsimp only at hSw); go_simp; try with_reducible rfl)
                try simp only [Act.put, List.setIfInBounds_toArray, List.set_cons_zero, List.set_cons_succ]
                refine wpAnyH_ready (rs := [15]) (by kernel_rfl) (by simp) ?_
                refine AllReadyH.cons rfl (fun K hK => ?_) ?_
                · go_simp
                  refine hK.out _ _ ?_ (fun hHeld => ?_)
                  · (try dsimp only)
                    exact SC.out _ ((oow6.trans (Oth.of_below ((Below.refl _ _).alloc (Nat.le_refl _) (.cells #[.int .i64 0, .int .i64 10, .int .i64 10, .int .i64 20, .int .i64 99] 3)))).trans (Oth.of_below ((Below.refl _ _).alloc (Nat.le_refl _) _)))
                  clear hK K
                  try simp only [Act.put, List.setIfInBounds_toArray, List.set_cons_zero, List.set_cons_succ]
                  refine wpAnyH_ready (rs := [16]) (by kernel_rfl) (by simp) ?_
                  refine AllReadyH.cons rfl (fun K hK => ?_) ?_
                  · refine step_append_own_at _ (by rfl) _ _ 23 (by rfl) w.heap.size 36 it (.agg #[S [], .int .i64 0, .int .i64 0]) 3 32 Tryd.underlying23 hi hz0 hz1 hz2 rfl (by decide) _ _ _ (by rfl) ((OWN.out _ (oow6.trans (Oth.of_below ((Below.refl _ _).alloc (Nat.le_refl _) (.cells #[.int .i64 0, .int .i64 10, .int .i64 10, .int .i64 20, .int .i64 99] 3))))).alloc _) ⟨w6.heap.size + 1, 0, none⟩ 1 1 [S nm, .int .i64 (1 + (r1 : Int)), .int .i64 pr] (by rfl) (by rfl) (fun j u h => cells_new _ _ (by simp) [S nm, .int .i64 (1 + (r1 : Int)), .int .i64 pr] _ j u h) (by intro u hu; simp at hu; rcases hu with rfl | rfl | rfl <;> rfl) hlm hl32 (alloc_le (Nat.le_trans hT1w (oow6.trans (Oth.of_below ((Below.refl _ _).alloc (Nat.le_refl _) (.cells #[.int .i64 0, .int .i64 10, .int .i64 10, .int .i64 20, .int .i64 99] 3)))).size)) ?_
                    intro v' w9 hown9 hg9 _
                    obtain ⟨A9, c9, rfl⟩ := own_form hown9
                    have HLN : (l ++ [(⟨nm, 1 + (r1 : Int), pr⟩ : Lfc.Op)]).length = l.length + 1 := by simp
                    have M9 : Hid (MadeO w T (l ++ [⟨nm, 1 + (r1 : Int), pr⟩]) (.slice A9 (l ++ [(⟨nm, 1 + (r1 : Int), pr⟩ : Lfc.Op)]).length c9) w9) := Lib.hid (by rw [HLN]; exact M1.out.step (x := ⟨nm, 1 + (r1 : Int), pr⟩) hTw (tw6.below ((Below.refl _ _).alloc (Nat.le_refl _) _)) (oow6.trans (Oth.of_below ((Below.refl _ _).alloc (Nat.le_refl _) (.cells #[.int .i64 0, .int .i64 10, .int .i64 10, .int .i64 20, .int .i64 99] 3)))) hg9 hown9 (by have := HNL.out; simp only; omega))
                    have hb9 := M1.out.low (oow6.trans (Oth.of_below ((Below.refl _ _).alloc (Nat.le_refl _) (.cells #[.int .i64 0, .int .i64 10, .int .i64 10, .int .i64 20, .int .i64 99] 3)))) hg9
                    refine hK.out _ _ ?_ (fun hHeld => ?_)
                    · (try dsimp only)
                      (have e := SC.out _ ((oow6.trans (Oth.of_below ((Below.refl _ _).alloc (Nat.le_refl _) (.cells #[.int .i64 0, .int .i64 10, .int .i64 10, .int .i64 20, .int .i64 99] 3)))).trans (Oth.of_below ((Below.refl _ _).alloc (Nat.le_refl _) (.cells #[S nm, .int .i64 (1 + (r1 : Int)), .int .i64 pr] 36)))); exact ⟨(hb9.cell (p := ⟨_, 0, none⟩) (by simp only; omega)).trans e.1, (hb9.cell (p := ⟨wb, _, none⟩) (by simp only; omega)).trans e.2⟩)
                    clear hK K
                    try simp only [Act.put, List.setIfInBounds_toArray, List.set_cons_zero, List.set_cons_succ]
                    clear hown9 hg9 hb9
                    refine wpAnyH_take (i := 17) (v := ?_) rfl (by kernel_rfl) (by kernel_rfl) (by kernel_rfl) (fun _ _ _ h => h) (Or.inl ⟨by rfl, ?_⟩) (by assumption) ?_
                    rotate_left
                    · (intro w hSw; (try dsimp only at hSw); go_simp; try with_reducible rfl)
                    try simp only [Act.put, List.setIfInBounds_toArray, List.set_cons_zero, List.set_cons_succ]
                    refine wpAnyH_done (by kernel_rfl) ?_ _
                    go_wp2_with fail
                    go_roundw
                    case rel => exact ⟨k + 1, l ++ [⟨nm, 1 + (r1 : Int), pr⟩], A9, c9, by omega, by simp; omega, by go_num, by simp, M9⟩
                    case measure => simp [intOf]; omega
                  exact AllReadyH.nil
                exact AllReadyH.nil
              exact AllReadyH.nil
            exact AllReadyH.nil
          exact AllReadyH.nil
        refine AllReadyH.cons rfl (fun K hK => ?_) ?_
        · go_simp
          refine hK.out _ _ ?_ (fun hHeld => ?_)
          · (try dsimp only)
            exact SC.out _ (G0.trans (Oth.of_below ((Below.refl _ _).alloc (Nat.le_refl _) (.cells #[.int .i64 0, .int .i64 10, .int .i64 10, .int .i64 20, .int .i64 99] 3))))
          clear hK K
          try simp only [Act.put, List.setIfInBounds_toArray, List.set_cons_zero, List.set_cons_succ]
          refine wpAnyH_ready (rs := [7]) (by kernel_rfl) (by simp) ?_
          refine AllReadyH.cons rfl (fun K hK => ?_) ?_
          · go_simp
            go_at_call 14
            refine (NX.out _ (T0.out.below ((Below.refl _ _).alloc (Nat.le_refl _) _))).mono ?_
            rintro e w5 ⟨⟨r1, hr1, rfl⟩, tw5, ow5⟩
            have oow5 := (G0.trans (Oth.of_below ((Below.refl _ _).alloc (Nat.le_refl _) (.cells #[.int .i64 0, .int .i64 10, .int .i64 10, .int .i64 20, .int .i64 99] 3)))).trans ow5
            have hr1a : (0 : Int) ≤ 1 + (r1 : Int) := by omega
            have hr1b : IntKind.i64.wrap (1 + (r1 : Int)) = 1 + (r1 : Int) := IntWalk.i64_in _ (by omega)
            refine hK.out _ _ ?_ (fun hHeld => ?_)
            · (try dsimp only)
              exact SC.out _ oow5
            clear hK K
            try simp only [Act.put, List.setIfInBounds_toArray, List.set_cons_zero, List.set_cons_succ]
            refine wpAnyH_take (i := 8) (v := ?_) rfl (by kernel_rfl) (by kernel_rfl) (by kernel_rfl) (fun _ _ _ h => h) (Or.inl ⟨by rfl, ?_⟩) (by assumption) ?_
            rotate_left
            · (intro w hSw; (try dsimp only at hSw); go_simp; try with_reducible rfl)
            try simp only [Act.put, List.setIfInBounds_toArray, List.set_cons_zero, List.set_cons_succ]
            refine wpAnyH_ready (rs := [11]) (by kernel_rfl) (by simp) ?_
            refine AllReadyH.cons rfl (fun K hK => ?_) ?_
            · go_simp
              go_at_call 14
              refine (NX.out _ tw5).mono ?_
              rintro e w6 ⟨⟨r2, hr2, rfl⟩, tw6, ow6⟩
              have oow6 := oow5.trans ow6
              have hr2a : (0 : Int) ≤ (r2 : Int) := by omega
              have hr2b : (r2 : Int) < 5 := by omega
              refine hK.out _ _ ?_ (fun hHeld => ?_)
              · (try dsimp only)
                exact SC.out _ oow6
              clear hK K
              try simp only [Act.put, List.setIfInBounds_toArray, List.set_cons_zero, List.set_cons_succ]
              have xt : w6.cell? ⟨w1.heap.size, r2, none⟩ = some (.int .i64 (Lfc.precs.getD r2 0)) := (ow6.cell (p := ⟨w1.heap.size, r2, none⟩) (by have := ow5.size; simp at this ⊢; omega) (by simp only; omega)).trans ((ow5.cell (p := ⟨w1.heap.size, r2, none⟩) (by simp) (by simp only; omega)).trans (PC.out w1.drew r2 hr2))
              generalize Lfc.precs.getD r2 0 = pr at *
              refine wpAnyH_take (i := 12) (v := ?_) rfl (by kernel_rfl) (by kernel_rfl) (by kernel_rfl) (fun _ _ _ h => h) (Or.inl ⟨by rfl, ?_⟩) (by assumption) ?_
              rotate_left
              · (intro w hSw; (try dsimp only at hSw); go_simp; try with_reducible rfl)
              try simp only [Act.put, List.setIfInBounds_toArray, List.set_cons_zero, List.set_cons_succ]
              refine wpAnyH_ready (rs := [13]) (by kernel_rfl) (by simp) ?_
              refine AllReadyH.cons rfl (fun K hK => ?_) ?_
              · go_simp
                refine hK.out _ _ ?_ (fun hHeld => ?_)
                · (try dsimp only)
                  exact SC.out _ oow6
                clear hK K
                try simp only [Act.put, List.setIfInBounds_toArray, List.set_cons_zero, List.set_cons_succ]
                refine wpAnyH_take (i := 14) (v := ?_) rfl (by kernel_rfl) (by kernel_rfl) (by kernel_rfl) (fun _ _ _ h => h) (Or.inl ⟨by rfl, ?_⟩) (by assumption) ?_
                rotate_left
                · (intro w hSw; (try dsimp only at hSw); go_simp; try with_reducible rfl)
                try simp only [Act.put, List.setIfInBounds_toArray, List.set_cons_zero, List.set_cons_succ]
                refine wpAnyH_ready (rs := [15]) (by kernel_rfl) (by simp) ?_
                refine AllReadyH.cons rfl (fun K hK => ?_) ?_
                · go_simp
                  refine hK.out _ _ ?_ (fun hHeld => ?_)
                  · (try dsimp only)
                    exact SC.out _ (oow6.trans (Oth.of_below ((Below.refl _ _).alloc (Nat.le_refl _) _)))
                  clear hK K
                  try simp only [Act.put, List.setIfInBounds_toArray, List.set_cons_zero, List.set_cons_succ]
                  refine wpAnyH_ready (rs := [16]) (by kernel_rfl) (by simp) ?_
                  refine AllReadyH.cons rfl (fun K hK => ?_) ?_
                  · refine step_append_own_at _ (by rfl) _ _ 23 (by rfl) w.heap.size 36 it (.agg #[S [], .int .i64 0, .int .i64 0]) 3 32 Tryd.underlying23 hi hz0 hz1 hz2 rfl (by decide) _ _ _ (by rfl) ((OWN.out _ oow6).alloc _) ⟨w6.heap.size, 0, none⟩ 1 1 [S nm, .int .i64 (1 + (r1 : Int)), .int .i64 pr] (by rfl) (by rfl) (fun j u h => cells_new _ _ (by simp) [S nm, .int .i64 (1 + (r1 : Int)), .int .i64 pr] _ j u h) (by intro u hu; simp at hu; rcases hu with rfl | rfl | rfl <;> rfl) hlm hl32 (alloc_le (Nat.le_trans hT1w oow6.size)) ?_
                    intro v' w9 hown9 hg9 _
                    obtain ⟨A9, c9, rfl⟩ := own_form hown9
                    have HLN : (l ++ [(⟨nm, 1 + (r1 : Int), pr⟩ : Lfc.Op)]).length = l.length + 1 := by simp
                    have M9 : Hid (MadeO w T (l ++ [⟨nm, 1 + (r1 : Int), pr⟩]) (.slice A9 (l ++ [(⟨nm, 1 + (r1 : Int), pr⟩ : Lfc.Op)]).length c9) w9) := Lib.hid (by rw [HLN]; exact M1.out.step (x := ⟨nm, 1 + (r1 : Int), pr⟩) hTw tw6 oow6 hg9 hown9 (by have := HNL.out; simp only; omega))
                    have hb9 := M1.out.low oow6 hg9
                    refine hK.out _ _ ?_ (fun hHeld => ?_)
                    · (try dsimp only)
                      (have e := SC.out _ (oow6.trans (Oth.of_below ((Below.refl _ _).alloc (Nat.le_refl _) (.cells #[S nm, .int .i64 (1 + (r1 : Int)), .int .i64 pr] 36)))); exact ⟨(hb9.cell (p := ⟨_, 0, none⟩) (by simp only; omega)).trans e.1, (hb9.cell (p := ⟨wb, _, none⟩) (by simp only; omega)).trans e.2⟩)
                    clear hK K
                    try simp only [Act.put, List.setIfInBounds_toArray, List.set_cons_zero, List.set_cons_succ]
                    clear hown9 hg9 hb9
                    refine wpAnyH_take (i := 17) (v := ?_) rfl (by kernel_rfl) (by kernel_rfl) (by kernel_rfl) (fun _ _ _ h => h) (Or.inl ⟨by rfl, ?_⟩) (by assumption) ?_
                    rotate_left
                    · (intro w hSw; (try dsimp only at hSw); go_simp; try with_reducible rfl)
                    try simp only [Act.put, List.setIfInBounds_toArray, List.set_cons_zero, List.set_cons_succ]
                    refine wpAnyH_done (by kernel_rfl) ?_ _
                    go_wp2_with fail
                    go_roundw
                    case rel => exact ⟨k + 1, l ++ [⟨nm, 1 + (r1 : Int), pr⟩], A9, c9, by omega, by simp; omega, by go_num, by simp, M9⟩
                    case measure => simp [intOf]; omega
                  exact AllReadyH.nil
                exact AllReadyH.nil
              exact AllReadyH.nil
            exact AllReadyH.nil
          exact AllReadyH.nil
        exact AllReadyH.nil
    · have hd0 : ¬ (k : Int) < 4 := by omega
      go_wp2_with fail
      go_ret
      exact ⟨l, A, c, rfl, HI.out, by omega⟩
end Go.Proofs.YtkhfnkokdmoipaaDoor

/- The contract of lfcheckmade.Operands. -/
set_option linter.unusedVariables false
set_option linter.unusedSimpArgs false
namespace Go.Proofs.YtkhfnkokdmoipaaDoor
open Go.RowKit Go.Maps Go.WideMaps

theorem TapeAt.low {T B : Nat} {W w' : World} (h : TapeAt T W) (hT : T < B) (hb : Below B W w') : TapeAt T w' := by
  obtain ⟨wb, wo, wc, h1, h2, h3, h4⟩ := h.words
  obtain ⟨A, n, c, i, ht, hi, hn, hc⟩ := h.t
  refine ⟨⟨A, n, c, i, (hb.block T hT).trans ht, hi, hn, fun hp => ?_⟩, ⟨wb, wo, wc, (hb.cell (p := ⟨_, 0, none⟩) (by simp only; omega)).trans h1, h2, h3, fun k hk => (hb.cell (p := ⟨wb, wo + k, none⟩) (by simp only; omega)).trans (h4 k hk)⟩⟩
  obtain ⟨b, o, hA, hbT, hx⟩ := hc hp
  refine ⟨b, o, hA, hbT, fun k hk => ?_⟩
  obtain ⟨x, hx⟩ := hx k hk
  exact ⟨x, (hb.cell (p := ⟨b, o + k, none⟩) (by simp only; omega)).trans hx⟩
/-- The loop of Operands. -/
structure MadeP (w : World) (T : Nat) (s : List Lfc.Opd) (v : Value) (xs : List Value) (wr : World) : Prop where
  tape : TapeAt T wr
  oth : Oth T w wr
  own : wr.ownsRow w.heap.size 42 5 v s.length xs
  row : RowO (fun b => w.heap.size ≤ b ∧ some b ≠ v.ownBlock) wr s xs
  sizes : ∀ x ∈ s, x.tree.size ≤ 100
theorem MadeP.push {w wr W w' : World} {T : Nat} {s : List Lfc.Opd} {v v' v0 v1 v2 v3 : Value} {xs : List Value} {x : Lfc.Opd} {o : Obj} (h : MadeP w T s v xs wr) (hT : T < w.heap.size) (hTW : TapeAt T W) (ho : Oth T wr W) (ht : TreeP (fun b => wr.heap.size ≤ b) W x.tree v0 v1 v2 v3) (hx : x.tree.size ≤ 100) (hg : (W.alloc o).grownBy w' v.ownBlock) (hown : w'.ownsRow w.heap.size 42 5 v' (s.length + 1) (xs ++ [v0, v1, v2, v3, .bool x.closed])) (hl : v'.ownBlock = v.ownBlock ∨ v'.ownBlock = some (W.alloc o).heap.size) : MadeP w T (s ++ [x]) v' (xs ++ [v0, v1, v2, v3, .bool x.closed]) w' := by
  have hs1 := h.oth.size
  have hs2 := ho.size
  have hs3 : (W.alloc o).heap.size = W.heap.size + 1 := by simp
  have hs4 := hg.size
  have hvl : ∀ b, v.ownBlock = some b → w.heap.size ≤ b ∧ b < wr.heap.size := fun b hb => h.own.lt b hb
  have hb : Below w.heap.size (W.alloc o) w' := ⟨hg.os, hg.tape, hg.output, hg.size, fun k hk => hg.block k (by omega) (fun e => by have := (hvl k e.symm).1; omega)⟩
  have kk : ∀ b, b < W.heap.size → some b ≠ v.ownBlock → w'.heap[b]? = W.heap[b]? := fun b hlt hn => (hg.block b (by omega) hn).trans (Lib.alloc_old _ _ _ hlt)
  have hq : ∀ b, b < W.heap.size → some b ≠ v.ownBlock → some b ≠ v'.ownBlock := fun b hlt hn => by
    rcases hl with e | e
    · rw [e]; exact hn
    · rw [e]; intro e'; have := Option.some.inj e'; omega
  refine ⟨(hTW.below ((Below.refl W.heap.size W).alloc (Nat.le_refl _) o)).low hT hb, (h.oth.trans (ho.trans (Oth.of_below ((Below.refl _ _).alloc (Nat.le_refl _) _)))).of_new hb, by rw [List.length_append]; exact hown, ?_, fun y hy => ?_⟩
  · refine RowO.append (RowO.one ?_) ?_
    · refine TreeP.keep (fun b hb' hlt => kk b hlt (fun e => by have := (hvl b e.symm).2; omega)) (by omega) (fun b hlt hb' => ⟨by omega, hq b hlt (fun e => by have := (hvl b e.symm).2; omega)⟩) _ _ _ _ _ ht
    · exact h.row.keep (fun b hb' hlt => (kk b (by omega) hb'.2).trans (ho.block b hlt (fun e => by have := Option.some.inj e; have := hb'.1; omega))) (by omega) (fun b hlt hb' => ⟨hb'.1, hq b (by omega) hb'.2⟩)
  · rcases List.mem_append.1 hy with hy | hy
    · exact h.sizes y hy
    · simp at hy; subst hy; exact hx
def OpdsPost (w : World) (T most : Nat) (e : Ending) (w' : World) : Prop := ∃ s A c xs, e = .returned (.slice A s.length c) ∧ MadeP w T s (.slice A s.length c) xs w' ∧ s.length ≤ most
theorem lay5m (w : World) (v0 v1 v2 v3 v4 : Value) : ∃ w', w.alloc (.cells #[v0, v1, v2, v3, v4] 42) = w' ∧ Below w.heap.size w w' ∧ (∀ j u, [v0, v1, v2, v3, v4][j]? = some u → w'.cell? ((⟨w.heap.size, 0, none⟩ : Addr).add j) = some u) :=
  ⟨_, rfl, (Below.refl _ _).alloc (Nat.le_refl _) _, fun j u h => cells_new w _ rfl [v0, v1, v2, v3, v4] 42 j u h⟩
theorem oneCell5m {k p : Int} {n : List UInt8} {A : Option Addr} {l c : Nat} {b : Bool} : ∀ u ∈ [Value.int .i64 k, S n, .int .i64 p, .slice A l c, .bool b], u.oneCell' = true := by
  intro u hu
  simp at hu
  rcases hu with rfl | rfl | rfl | rfl | rfl <;> rfl
theorem cells5m {W : World} {g : Nat} {v0 v1 v2 v3 v4 : Value} {t : TypeId} (h : W.heap[g]? = some (.cells #[v0, v1, v2, v3, v4] t (0, 0))) : W.cell? ⟨g, 0, none⟩ = some v0 ∧ W.cell? ⟨g, 1, none⟩ = some v1 ∧ W.cell? ⟨g, 2, none⟩ = some v2 ∧ W.cell? ⟨g, 3, none⟩ = some v3 ∧ W.cell? ⟨g, 4, none⟩ = some v4 :=
  ⟨Lib.cell_of_heap h 0, Lib.cell_of_heap h 1, Lib.cell_of_heap h 2, Lib.cell_of_heap h 3, Lib.cell_of_heap h 4⟩
theorem leafP {q : Nat → Prop} {w : World} (n : List UInt8) (p : Int) (hn : n.length ≤ 1000000) : TreeP q w (.node 1 n p []) (.int .i64 1) (S n) (.int .i64 p) (.slice none 0 0) := by
  rw [TreeP]; exact ⟨rfl, rfl, hn, rfl, none, 0, rfl, Nat.le_refl _, fun h => absurd rfl h⟩
theorem set1m {W : World} {r : Nat} {v0 v1 v2 v3 v4 v : Value} {t : TypeId} (h : W.heap[r]? = some (.cells #[v0, v1, v2, v3, v4] t (0, 0))) : (W.setCell ⟨r, 1, none⟩ v).heap[r]? = some (.cells #[v0, v, v2, v3, v4] t (0, 0)) := by
  simp [World.setCell, Array.getElem?_modify, h]
/-- A struct of five cells is stored. -/
theorem put5m {W : World} {R : Nat} {a0 a1 a2 a3 a4 : Value} {t : TypeId} (h : W.heap[R]? = some (.cells #[a0, a1, a2, a3, a4] t (0, 0))) (v0 v1 v2 v3 v4 : Value) : ∃ s1 s2 s3 s4 s5, W.setCell ⟨R, 0, none⟩ v0 = s1 ∧ s1.setCell ⟨R, 1, none⟩ v1 = s2 ∧ s2.setCell ⟨R, 2, none⟩ v2 = s3 ∧ s3.setCell ⟨R, 3, none⟩ v3 = s4 ∧ s4.setCell ⟨R, 4, none⟩ v4 = s5 ∧
    (W.cell? ⟨R, 0, none⟩ = some a0 ∧ s1.cell? ⟨R, 1, none⟩ = some a1 ∧ s2.cell? ⟨R, 2, none⟩ = some a2 ∧ s3.cell? ⟨R, 3, none⟩ = some a3 ∧ s4.cell? ⟨R, 4, none⟩ = some a4) ∧
    (W.frozen? ⟨R, 0, none⟩ = false ∧ s1.frozen? ⟨R, 1, none⟩ = false ∧ s2.frozen? ⟨R, 2, none⟩ = false ∧ s3.frozen? ⟨R, 3, none⟩ = false ∧ s4.frozen? ⟨R, 4, none⟩ = false) ∧
    s5.heap[R]? = some (.cells #[v0, v1, v2, v3, v4] t (0, 0)) ∧ Oth R W s5 := by
  have h1 : (W.setCell ⟨R, 0, none⟩ v0).heap[R]? = some (.cells #[v0, a1, a2, a3, a4] t (0, 0)) := by simp [World.setCell, Array.getElem?_modify, h]
  have h2 : ((W.setCell ⟨R, 0, none⟩ v0).setCell ⟨R, 1, none⟩ v1).heap[R]? = some (.cells #[v0, v1, a2, a3, a4] t (0, 0)) := by generalize W.setCell ⟨R, 0, none⟩ v0 = X at *; simp [World.setCell, Array.getElem?_modify, h1]
  have h3 : (((W.setCell ⟨R, 0, none⟩ v0).setCell ⟨R, 1, none⟩ v1).setCell ⟨R, 2, none⟩ v2).heap[R]? = some (.cells #[v0, v1, v2, a3, a4] t (0, 0)) := by generalize (W.setCell ⟨R, 0, none⟩ v0).setCell ⟨R, 1, none⟩ v1 = X at *; simp [World.setCell, Array.getElem?_modify, h2]
  have h4 : ((((W.setCell ⟨R, 0, none⟩ v0).setCell ⟨R, 1, none⟩ v1).setCell ⟨R, 2, none⟩ v2).setCell ⟨R, 3, none⟩ v3).heap[R]? = some (.cells #[v0, v1, v2, v3, a4] t (0, 0)) := by generalize ((W.setCell ⟨R, 0, none⟩ v0).setCell ⟨R, 1, none⟩ v1).setCell ⟨R, 2, none⟩ v2 = X at *; simp [World.setCell, Array.getElem?_modify, h3]
  have h5 : (((((W.setCell ⟨R, 0, none⟩ v0).setCell ⟨R, 1, none⟩ v1).setCell ⟨R, 2, none⟩ v2).setCell ⟨R, 3, none⟩ v3).setCell ⟨R, 4, none⟩ v4).heap[R]? = some (.cells #[v0, v1, v2, v3, v4] t (0, 0)) := by generalize (((W.setCell ⟨R, 0, none⟩ v0).setCell ⟨R, 1, none⟩ v1).setCell ⟨R, 2, none⟩ v2).setCell ⟨R, 3, none⟩ v3 = X at *; simp [World.setCell, Array.getElem?_modify, h4]
  exact ⟨_, _, _, _, _, rfl, rfl, rfl, rfl, rfl, ⟨Lib.cell_of_heap h 0, Lib.cell_of_heap h1 1, Lib.cell_of_heap h2 2, Lib.cell_of_heap h3 3, Lib.cell_of_heap h4 4⟩, ⟨Lib.frozen_of_heap h _, Lib.frozen_of_heap h1 _, Lib.frozen_of_heap h2 _, Lib.frozen_of_heap h3 _, Lib.frozen_of_heap h4 _⟩, h5, ((((Oth.set W v0).trans (Oth.set _ v1)).trans (Oth.set _ v2)).trans (Oth.set _ v3)).trans (Oth.set _ v4)⟩
theorem arrs_cell (w : World) (k : Nat) (h : k < 3) : ∃ n : List UInt8, n.length ≤ 1000000 ∧ (w.alloc (.cells #[S [45, 62], S [45, 62], S [60, 45]] 9)).cell? ⟨w.heap.size, k, none⟩ = some (S n) := by
  have q := heap_alloc_new w (.cells #[S [45, 62], S [45, 62], S [60, 45]] 9)
  match k, h with
  | 0, _ => exact ⟨_, by simp, Lib.cell_of_heap q 0⟩
  | 1, _ => exact ⟨_, by simp, Lib.cell_of_heap q 1⟩
  | 2, _ => exact ⟨_, by simp, Lib.cell_of_heap q 2⟩

set_option maxRecDepth 100000 in
set_option maxHeartbeats 8000000 in
theorem madeOperands_any (T most : Nat) (w : World) (hmost : most ≤ 50) (h : TapeAt T w) :
    Calls Tryd.prog 7 #[.pointer (some ⟨T, 0, none⟩), .int .i64 (most : Int)] w (OpdsPost w T most) := by
  obtain ⟨it, hi, hz0, hz1, hz2⟩ := opd_info
  have hTw := h.lt
  have hN := tapeNext_any T (most + 1) w (by omega) (by omega) h
  rw [show ((most + 1 : Nat) : Int) = (most : Int) + 1 by omega] at hN
  have HN := Lib.hid hN
  clear h hN
  go_enter Tryd.func7, Tryd.ntmps7
  go_wp2_with fail
  refine HN.out.mono ?_
  rintro e w1 ⟨⟨n0, hn0, rfl⟩, t1, o1⟩
  have M0 : Hid (MadeP w T [] (.slice none 0 0) [] w1) := Lib.hid ⟨t1, o1, own_nil _ _ _ _, by rw [RowO], by simp⟩
  clear t1 o1 HN
  go_wp2_with fail
  go_loopw [5, 6] (fun v i wr => ∃ (k : Nat) (s : List Lfc.Opd) (A : Option Addr) (c : Nat) (xs : List Value), s.length + k ≤ most ∧ i = .int .i64 k ∧ v = .slice A s.length c ∧ Hid (MadeP w T s (.slice A s.length c) xs wr)) (fun _ i _ => (intOf i).toNat)
  case atStart => exact ⟨n0, [], none, 0, [], by simp; omega, rfl, rfl, M0⟩
  case round =>
    clear M0
    obtain ⟨k, s, A, c, xs, hk, rfl, rfl, HI⟩ := hrel
    by_cases hk0 : k = 0
    · subst hk0
      go_wp2_with fail
      go_ret
      exact ⟨s, A, c, xs, rfl, HI.out, by omega⟩
    · have hd0 : (0 : Int) < (k : Int) := by omega
      have hd0' : (k : Int) > 0 := by omega
      go_wp2_with fail
      refine (tapeNext_any T 50 _ (by omega) (by omega) HI.out.tape).mono ?_
      rintro e w2 ⟨⟨r1, hr1, rfl⟩, t2, o2⟩
      obtain ⟨w3, hw3⟩ : ∃ w3, w2.alloc (.cells #[.int .i64 1, S [], .int .i64 (r1 : Int), .slice none 0 0, .bool false] 42) = w3 := ⟨_, rfl⟩
      have b3 : Below w2.heap.size w2 w3 := by rw [← hw3]; exact (Below.refl _ _).alloc (Nat.le_refl _) _
      have q3 : w3.heap[w2.heap.size]? = some (.cells #[.int .i64 1, S [], .int .i64 (r1 : Int), .slice none 0 0, .bool false] 42 (0, 0)) := by rw [← hw3]; exact heap_alloc_new _ _
      have T3 := Lib.hid (t2.below b3)
      have O3 := Lib.hid (o2.trans (Oth.of_below b3))
      have hTg : T < w2.heap.size := t2.lt
      have hgr : wr.heap.size ≤ w2.heap.size := o2.size
      have Q3 := Lib.hid q3
      have HW3 := Lib.hid hw3
      clear hw3 b3 q3 t2 o2
      go_upto_region 6 with fail
      rw [HW3.out]
      generalize w2.heap.size = g at *
      go_wp2_with fail
      refine (tapeNext_any T 5 _ (by omega) (by omega) T3.out).mono ?_
      rintro e w4 ⟨⟨r2, hr2, rfl⟩, t4, o4⟩
      have T4 := Lib.hid t4
      have O4 := Lib.hid (O3.out.trans o4)
      have Q4 := Lib.hid (o4.heap Q3.out (by omega))
      have hl4 := t4.lt
      clear t4 o4 T3 O3 Q3 HW3
      obtain ⟨wb, wo, wc2, hw1, hwb, hwg, hwk⟩ := T4.out.words
      have HWK := Lib.hid hwk
      have hgl : 0 < w4.heap.size := by omega
      have hlm : s.length + 1 ≤ maxLen := by unfold maxLen; omega
      have hl64 : (s.length + 1) * 64 ≤ 140737488355328 := by omega
      have hs1 := HI.out.oth.size
      have HOW := Lib.hid (fun W (ho : Oth T wr W) => HI.out.own.kept ho (Or.inr (fun e => by have := (HI.out.own.lt T e).1; omega)))
      have hkm : IntKind.i64.wrap ((k : Int) - 1) = ((k - 1 : Nat) : Int) := by rw [IntWalk.i64_in _ (by omega)]; omega
      clear hwk
      rcases (show r2 = 0 ∨ r2 = 1 ∨ r2 = 2 ∨ r2 = 3 ∨ r2 = 4 by omega) with rfl | rfl | rfl | rfl | rfl
      · go_wp2_with fail
        go_region_held3 (fun w' => w'.cell? ⟨0, 0, none⟩ = some (.slice (some ⟨wb, wo, none⟩) 13 wc2) ∧ ∀ k, k < 13 → w'.cell? ⟨wb, wo + k, none⟩ = some (S (Lfc.words.getD k [])))
          (first | exact ⟨hw1, HWK.out⟩ | exact words_oth o5 hgl (Nat.lt_trans hwb hl4) (Nat.ne_of_lt hwg) (Nat.ne_of_lt hwb) ⟨hw1, HWK.out⟩ | exact words_set (Nat.ne_of_gt (Nat.lt_trans hwg hTg)) (Nat.ne_of_gt (Nat.lt_trans hwb hTg)) (words_oth o5 hgl (Nat.lt_trans hwb hl4) (Nat.ne_of_lt hwg) (Nat.ne_of_lt hwb) ⟨hw1, HWK.out⟩))
          (first | (go_at_call 14; refine (tapeNext_any T 4 _ (by omega) (by omega) (T4.out.below (Below.refl _ _).drew)).mono ?_; rintro e w5 ⟨⟨r5, hr5, rfl⟩, T5, o5⟩; have hb6 : r5 < 13 := Nat.lt_trans hr5 (by decide); have hx5 := (o5.cell (p := ⟨wb, wo + r5, none⟩) (Nat.lt_trans hwb hl4) (Nat.ne_of_lt hwb)).trans (HWK.out r5 hb6); have q5 := o5.heap Q4.out (Nat.ne_of_gt hTg); have f5 := Lib.frozen_of_heap q5 1; have y5 := Lib.cell_of_heap q5 1; have hb5 : (r5 : Int) < 13 := Int.ofNat_lt.2 hb6))
        go_upto_region 16 with fail
        have hnl := Lfc.words_len (r5)
        rw [List.getD_eq_getElem?_getD] at hnl
        generalize Lfc.words[r5]?.getD [] = nm at *
        obtain ⟨w6, hw6⟩ : ∃ w6, w5.setCell ⟨g, 1, none⟩ (S nm) = w6 := ⟨_, rfl⟩
        rw [hw6]
        have q6 : w6.heap[g]? = some (.cells #[.int .i64 1, S nm, .int .i64 (r1 : Int), .slice none 0 0, .bool false] 42 (0, 0)) := by rw [← hw6]; exact set1m q5
        have oo5 : Oth T wr w5 := O4.out.trans ((Oth.refl _ _).drew.trans o5)
        have o6 : Oth T wr w6 := by rw [← hw6]; exact oo5.of_new ((Below.refl _ _).setCell (p := ⟨g, 1, none⟩) hgr _)
        have t6 : TapeAt T w6 := by rw [← hw6]; exact T5.oth hTg (Oth.set _ _)
        clear hw6 T5 o5 oo5 q5 f5 y5 hx5
        obtain ⟨z0, z1, z2, z3, z4⟩ := cells5m q6
        obtain ⟨w7, hw7, b7, hc7⟩ := lay5m w6 (.int .i64 1) (S nm) (.int .i64 (r1 : Int)) (.slice none 0 0) (.bool false)
        have OW7 := Lib.hid (own_below (HOW.out w6 o6) b7)
        have hsz7 : w.heap.size ≤ w7.heap.size := Nat.le_trans (Nat.le_trans hs1 o6.size) b7.size
        have HC7 := Lib.hid hc7
        have TP6 : Hid (TreeP (fun b => wr.heap.size ≤ b) w6 (.node 1 nm (r1 : Int) []) (.int .i64 1) (S nm) (.int .i64 (r1 : Int)) (.slice none 0 0)) := Lib.hid (leafP nm _ (by omega))
        have T6 := Lib.hid t6
        have O6 := Lib.hid o6
        clear b7 hc7 t6 o6 q6
        go_wp2_with (at_builtin; refine wpList_append_own_at _ rfl _ _ 28 rfl w.heap.size 42 it (.agg #[.int .i64 0, S [], .int .i64 0, .slice none 0 0, .bool false]) 5 64 Tryd.underlying28 hi hz0 hz1 hz2 rfl (by decide) _ s.length xs rfl OW7.out ⟨w6.heap.size, 0, none⟩ 1 1 [.int .i64 1, S nm, .int .i64 (r1 : Int), .slice none 0 0, .bool false] rfl rfl HC7.out oneCell5m hlm hl64 hsz7 ?_)
        intro v8 w8 hown8 hg8 _ hloc8
        obtain ⟨A8, c8, rfl⟩ := own_form hown8
        have HLN : (s ++ [(⟨.node 1 nm (r1 : Int) [], false⟩ : Lfc.Opd)]).length = s.length + 1 := by simp
        have M8 : Hid (MadeP w T (s ++ [(⟨.node 1 nm (r1 : Int) [], false⟩ : Lfc.Opd)]) (.slice A8 (s ++ [(⟨.node 1 nm (r1 : Int) [], false⟩ : Lfc.Opd)]).length c8) (xs ++ [.int .i64 1, S nm, .int .i64 (r1 : Int), .slice none 0 0, .bool false]) w8) := Lib.hid (by rw [HLN]; rw [← hw7] at hg8 hloc8; exact HI.out.push (x := (⟨.node 1 nm (r1 : Int) [], false⟩ : Lfc.Opd)) hTw T6.out O6.out TP6.out (by simp [Lfc.Raw.size, Lfc.Raw.sizes]) hg8 hown8 hloc8)
        clear hown8 hg8 hloc8 hw7 z0 z1 z2 z3 z4
        go_wp2_with fail
        go_roundw
        case rel => exact ⟨k - 1, s ++ [(⟨.node 1 nm (r1 : Int) [], false⟩ : Lfc.Opd)], A8, c8, _, by rw [HLN]; omega, by first | rfl | (rw [← hkm]; done) | go_num | (simp; omega), by rw [HLN], M8⟩
        case measure => simp [intOf] <;> omega
      · go_wp2_with fail
        go_region_held3 (fun w' => w'.cell? ⟨0, 0, none⟩ = some (.slice (some ⟨wb, wo, none⟩) 13 wc2) ∧ ∀ k, k < 13 → w'.cell? ⟨wb, wo + k, none⟩ = some (S (Lfc.words.getD k [])))
          (first | exact ⟨hw1, HWK.out⟩ | exact words_oth o5 hgl (Nat.lt_trans hwb hl4) (Nat.ne_of_lt hwg) (Nat.ne_of_lt hwb) ⟨hw1, HWK.out⟩ | exact words_set (Nat.ne_of_gt (Nat.lt_trans hwg hTg)) (Nat.ne_of_gt (Nat.lt_trans hwb hTg)) (words_oth o5 hgl (Nat.lt_trans hwb hl4) (Nat.ne_of_lt hwg) (Nat.ne_of_lt hwb) ⟨hw1, HWK.out⟩))
          (first | (go_at_call 14; refine (tapeNext_any T 4 _ (by omega) (by omega) (T4.out.below (Below.refl _ _).drew)).mono ?_; rintro e w5 ⟨⟨r5, hr5, rfl⟩, T5, o5⟩; have hb6 : r5 < 13 := Nat.lt_trans hr5 (by decide); have hx5 := (o5.cell (p := ⟨wb, wo + r5, none⟩) (Nat.lt_trans hwb hl4) (Nat.ne_of_lt hwb)).trans (HWK.out r5 hb6); have q5 := o5.heap Q4.out (Nat.ne_of_gt hTg); have f5 := Lib.frozen_of_heap q5 1; have y5 := Lib.cell_of_heap q5 1; have hb5 : (r5 : Int) < 13 := Int.ofNat_lt.2 hb6))
        go_upto_region 16 with fail
        have hnl := Lfc.words_len (r5)
        rw [List.getD_eq_getElem?_getD] at hnl
        generalize Lfc.words[r5]?.getD [] = nm at *
        obtain ⟨w6, hw6⟩ : ∃ w6, w5.setCell ⟨g, 1, none⟩ (S nm) = w6 := ⟨_, rfl⟩
        rw [hw6]
        have q6 : w6.heap[g]? = some (.cells #[.int .i64 1, S nm, .int .i64 (r1 : Int), .slice none 0 0, .bool false] 42 (0, 0)) := by rw [← hw6]; exact set1m q5
        have oo5 : Oth T wr w5 := O4.out.trans ((Oth.refl _ _).drew.trans o5)
        have o6 : Oth T wr w6 := by rw [← hw6]; exact oo5.of_new ((Below.refl _ _).setCell (p := ⟨g, 1, none⟩) hgr _)
        have t6 : TapeAt T w6 := by rw [← hw6]; exact T5.oth hTg (Oth.set _ _)
        clear hw6 T5 o5 oo5 q5 f5 y5 hx5
        obtain ⟨z0, z1, z2, z3, z4⟩ := cells5m q6
        obtain ⟨w7, hw7, b7, hc7⟩ := lay5m w6 (.int .i64 1) (S nm) (.int .i64 (r1 : Int)) (.slice none 0 0) (.bool false)
        have OW7 := Lib.hid (own_below (HOW.out w6 o6) b7)
        have hsz7 : w.heap.size ≤ w7.heap.size := Nat.le_trans (Nat.le_trans hs1 o6.size) b7.size
        have HC7 := Lib.hid hc7
        have TP6 : Hid (TreeP (fun b => wr.heap.size ≤ b) w6 (.node 1 nm (r1 : Int) []) (.int .i64 1) (S nm) (.int .i64 (r1 : Int)) (.slice none 0 0)) := Lib.hid (leafP nm _ (by omega))
        have T6 := Lib.hid t6
        have O6 := Lib.hid o6
        clear b7 hc7 t6 o6 q6
        go_wp2_with (at_builtin; refine wpList_append_own_at _ rfl _ _ 28 rfl w.heap.size 42 it (.agg #[.int .i64 0, S [], .int .i64 0, .slice none 0 0, .bool false]) 5 64 Tryd.underlying28 hi hz0 hz1 hz2 rfl (by decide) _ s.length xs rfl OW7.out ⟨w6.heap.size, 0, none⟩ 1 1 [.int .i64 1, S nm, .int .i64 (r1 : Int), .slice none 0 0, .bool false] rfl rfl HC7.out oneCell5m hlm hl64 hsz7 ?_)
        intro v8 w8 hown8 hg8 _ hloc8
        obtain ⟨A8, c8, rfl⟩ := own_form hown8
        have HLN : (s ++ [(⟨.node 1 nm (r1 : Int) [], false⟩ : Lfc.Opd)]).length = s.length + 1 := by simp
        have M8 : Hid (MadeP w T (s ++ [(⟨.node 1 nm (r1 : Int) [], false⟩ : Lfc.Opd)]) (.slice A8 (s ++ [(⟨.node 1 nm (r1 : Int) [], false⟩ : Lfc.Opd)]).length c8) (xs ++ [.int .i64 1, S nm, .int .i64 (r1 : Int), .slice none 0 0, .bool false]) w8) := Lib.hid (by rw [HLN]; rw [← hw7] at hg8 hloc8; exact HI.out.push (x := (⟨.node 1 nm (r1 : Int) [], false⟩ : Lfc.Opd)) hTw T6.out O6.out TP6.out (by simp [Lfc.Raw.size, Lfc.Raw.sizes]) hg8 hown8 hloc8)
        clear hown8 hg8 hloc8 hw7 z0 z1 z2 z3 z4
        go_wp2_with fail
        go_roundw
        case rel => exact ⟨k - 1, s ++ [(⟨.node 1 nm (r1 : Int) [], false⟩ : Lfc.Opd)], A8, c8, _, by rw [HLN]; omega, by first | rfl | (rw [← hkm]; done) | go_num | (simp; omega), by rw [HLN], M8⟩
        case measure => simp [intOf] <;> omega
      · go_wp2_with fail
        go_region_held3 (fun w' => w'.cell? ⟨0, 0, none⟩ = some (.slice (some ⟨wb, wo, none⟩) 13 wc2) ∧ ∀ k, k < 13 → w'.cell? ⟨wb, wo + k, none⟩ = some (S (Lfc.words.getD k [])))
          (first | exact ⟨hw1, HWK.out⟩ | exact words_oth o5 hgl (Nat.lt_trans hwb hl4) (Nat.ne_of_lt hwg) (Nat.ne_of_lt hwb) ⟨hw1, HWK.out⟩ | exact words_set (Nat.ne_of_gt (Nat.lt_trans hwg hTg)) (Nat.ne_of_gt (Nat.lt_trans hwb hTg)) (words_oth o5 hgl (Nat.lt_trans hwb hl4) (Nat.ne_of_lt hwg) (Nat.ne_of_lt hwb) ⟨hw1, HWK.out⟩))
          (first | (go_at_call 14; refine (tapeNext_any T 4 _ (by omega) (by omega) (T4.out.below (Below.refl _ _).drew)).mono ?_; rintro e w5 ⟨⟨r5, hr5, rfl⟩, T5, o5⟩; have hb6 : 4 + r5 < 13 := (by omega); have hx5 := (o5.cell (p := ⟨wb, wo + (4 + r5), none⟩) (Nat.lt_trans hwb hl4) (Nat.ne_of_lt hwb)).trans (HWK.out (4 + r5) hb6); have q5 := o5.heap Q4.out (Nat.ne_of_gt hTg); have f5 := Lib.frozen_of_heap q5 1; have y5 := Lib.cell_of_heap q5 1; have hb5 : 4 + (r5 : Int) < 13 := (by omega); have hb7 : (0 : Int) ≤ 4 + (r5 : Int) := (by omega); have hb8 : IntKind.i64.wrap (4 + (r5 : Int)) = 4 + (r5 : Int) := IntWalk.i64_in _ (by omega); have hb9 : (4 + (r5 : Int)).toNat = 4 + r5 := (by omega)))
        go_upto_region 16 with fail
        have hnl := Lfc.words_len (4 + r5)
        rw [List.getD_eq_getElem?_getD] at hnl
        generalize Lfc.words[4 + r5]?.getD [] = nm at *
        obtain ⟨w6, hw6⟩ : ∃ w6, w5.setCell ⟨g, 1, none⟩ (S nm) = w6 := ⟨_, rfl⟩
        rw [hw6]
        have q6 : w6.heap[g]? = some (.cells #[.int .i64 1, S nm, .int .i64 (r1 : Int), .slice none 0 0, .bool false] 42 (0, 0)) := by rw [← hw6]; exact set1m q5
        have oo5 : Oth T wr w5 := O4.out.trans ((Oth.refl _ _).drew.trans o5)
        have o6 : Oth T wr w6 := by rw [← hw6]; exact oo5.of_new ((Below.refl _ _).setCell (p := ⟨g, 1, none⟩) hgr _)
        have t6 : TapeAt T w6 := by rw [← hw6]; exact T5.oth hTg (Oth.set _ _)
        clear hw6 T5 o5 oo5 q5 f5 y5 hx5
        obtain ⟨z0, z1, z2, z3, z4⟩ := cells5m q6
        obtain ⟨w7, hw7, b7, hc7⟩ := lay5m w6 (.int .i64 1) (S nm) (.int .i64 (r1 : Int)) (.slice none 0 0) (.bool false)
        have OW7 := Lib.hid (own_below (HOW.out w6 o6) b7)
        have hsz7 : w.heap.size ≤ w7.heap.size := Nat.le_trans (Nat.le_trans hs1 o6.size) b7.size
        have HC7 := Lib.hid hc7
        have TP6 : Hid (TreeP (fun b => wr.heap.size ≤ b) w6 (.node 1 nm (r1 : Int) []) (.int .i64 1) (S nm) (.int .i64 (r1 : Int)) (.slice none 0 0)) := Lib.hid (leafP nm _ (by omega))
        have T6 := Lib.hid t6
        have O6 := Lib.hid o6
        clear b7 hc7 t6 o6 q6
        go_wp2_with (at_builtin; refine wpList_append_own_at _ rfl _ _ 28 rfl w.heap.size 42 it (.agg #[.int .i64 0, S [], .int .i64 0, .slice none 0 0, .bool false]) 5 64 Tryd.underlying28 hi hz0 hz1 hz2 rfl (by decide) _ s.length xs rfl OW7.out ⟨w6.heap.size, 0, none⟩ 1 1 [.int .i64 1, S nm, .int .i64 (r1 : Int), .slice none 0 0, .bool false] rfl rfl HC7.out oneCell5m hlm hl64 hsz7 ?_)
        intro v8 w8 hown8 hg8 _ hloc8
        obtain ⟨A8, c8, rfl⟩ := own_form hown8
        have HLN : (s ++ [(⟨.node 1 nm (r1 : Int) [], false⟩ : Lfc.Opd)]).length = s.length + 1 := by simp
        have M8 : Hid (MadeP w T (s ++ [(⟨.node 1 nm (r1 : Int) [], false⟩ : Lfc.Opd)]) (.slice A8 (s ++ [(⟨.node 1 nm (r1 : Int) [], false⟩ : Lfc.Opd)]).length c8) (xs ++ [.int .i64 1, S nm, .int .i64 (r1 : Int), .slice none 0 0, .bool false]) w8) := Lib.hid (by rw [HLN]; rw [← hw7] at hg8 hloc8; exact HI.out.push (x := (⟨.node 1 nm (r1 : Int) [], false⟩ : Lfc.Opd)) hTw T6.out O6.out TP6.out (by simp [Lfc.Raw.size, Lfc.Raw.sizes]) hg8 hown8 hloc8)
        clear hown8 hg8 hloc8 hw7 z0 z1 z2 z3 z4
        go_wp2_with fail
        go_roundw
        case rel => exact ⟨k - 1, s ++ [(⟨.node 1 nm (r1 : Int) [], false⟩ : Lfc.Opd)], A8, c8, _, by rw [HLN]; omega, by first | rfl | (rw [← hkm]; done) | go_num | (simp; omega), by rw [HLN], M8⟩
        case measure => simp [intOf] <;> omega
      · obtain ⟨w5, hw5⟩ : ∃ w5, w4.alloc (.cells #[S [45, 62], S [45, 62], S [60, 45]] 9) = w5 := ⟨_, rfl⟩
        have b5 : Below w4.heap.size w4 w5 := by rw [← hw5]; exact (Below.refl _ _).alloc (Nat.le_refl _) _
        have AC : Hid (∀ k, k < 3 → ∃ n : List UInt8, n.length ≤ 1000000 ∧ w5.cell? ⟨w4.heap.size, k, none⟩ = some (S n)) := by rw [← hw5]; exact Lib.hid (arrs_cell w4)
        have hsz5 : w4.heap.size < w5.heap.size := by rw [← hw5]; simp
        have CN := Lib.hid (tapeNext_any T 3 w5 (by omega) (by omega) (T4.out.below b5))
        have O5 := Lib.hid (O4.out.trans (Oth.of_below b5))
        have Q5 := Lib.hid ((b5.block g (lt_of_block Q4.out)).trans Q4.out)
        clear b5
        go_wp2_with fail
        refine CN.out.mono ?_
        rintro e w5' ⟨⟨r5, hr5, rfl⟩, T5, o5⟩
        obtain ⟨nm, hnl, hxc⟩ := AC.out r5 hr5
        have hx5 := (o5.cell (p := ⟨w4.heap.size, r5, none⟩) (by simp only; omega) (by simp only; omega)).trans hxc
        have q5 := o5.heap Q5.out (Nat.ne_of_gt hTg)
        have f5 := Lib.frozen_of_heap q5 1
        have y5 := Lib.cell_of_heap q5 1
        have hb5 : (r5 : Int) < 3 := by omega
        have hb6 : (0 : Int) ≤ (r5 : Int) := by omega
        obtain ⟨w6, hw6⟩ : ∃ w6, w5'.setCell ⟨g, 1, none⟩ (S nm) = w6 := ⟨_, rfl⟩
        have q6 : w6.heap[g]? = some (.cells #[.int .i64 1, S nm, .int .i64 (r1 : Int), .slice none 0 0, .bool false] 42 (0, 0)) := by rw [← hw6]; exact set1m q5
        have oo5 : Oth T wr w5' := O5.out.trans o5
        have o6 : Oth T wr w6 := by rw [← hw6]; exact oo5.of_new ((Below.refl _ _).setCell (p := ⟨g, 1, none⟩) hgr _)
        have t6 : TapeAt T w6 := by rw [← hw6]; exact T5.oth hTg (Oth.set _ _)
        clear hxc T5 o5 oo5 q5 hw5
        go_upto_region 16 with fail
        clear hw6 f5 y5 hx5
        obtain ⟨z0, z1, z2, z3, z4⟩ := cells5m q6
        obtain ⟨w7, hw7, b7, hc7⟩ := lay5m w6 (.int .i64 1) (S nm) (.int .i64 (r1 : Int)) (.slice none 0 0) (.bool false)
        have OW7 := Lib.hid (own_below (HOW.out w6 o6) b7)
        have hsz7 : w.heap.size ≤ w7.heap.size := Nat.le_trans (Nat.le_trans hs1 o6.size) b7.size
        have HC7 := Lib.hid hc7
        have TP6 : Hid (TreeP (fun b => wr.heap.size ≤ b) w6 (.node 1 nm (r1 : Int) []) (.int .i64 1) (S nm) (.int .i64 (r1 : Int)) (.slice none 0 0)) := Lib.hid (leafP nm _ (by omega))
        have T6 := Lib.hid t6
        have O6 := Lib.hid o6
        clear b7 hc7 t6 o6 q6
        go_wp2_with (at_builtin; refine wpList_append_own_at _ rfl _ _ 28 rfl w.heap.size 42 it (.agg #[.int .i64 0, S [], .int .i64 0, .slice none 0 0, .bool false]) 5 64 Tryd.underlying28 hi hz0 hz1 hz2 rfl (by decide) _ s.length xs rfl OW7.out ⟨w6.heap.size, 0, none⟩ 1 1 [.int .i64 1, S nm, .int .i64 (r1 : Int), .slice none 0 0, .bool false] rfl rfl HC7.out oneCell5m hlm hl64 hsz7 ?_)
        intro v8 w8 hown8 hg8 _ hloc8
        obtain ⟨A8, c8, rfl⟩ := own_form hown8
        have HLN : (s ++ [(⟨.node 1 nm (r1 : Int) [], false⟩ : Lfc.Opd)]).length = s.length + 1 := by simp
        have M8 : Hid (MadeP w T (s ++ [(⟨.node 1 nm (r1 : Int) [], false⟩ : Lfc.Opd)]) (.slice A8 (s ++ [(⟨.node 1 nm (r1 : Int) [], false⟩ : Lfc.Opd)]).length c8) (xs ++ [.int .i64 1, S nm, .int .i64 (r1 : Int), .slice none 0 0, .bool false]) w8) := Lib.hid (by rw [HLN]; rw [← hw7] at hg8 hloc8; exact HI.out.push (x := (⟨.node 1 nm (r1 : Int) [], false⟩ : Lfc.Opd)) hTw T6.out O6.out TP6.out (by simp [Lfc.Raw.size, Lfc.Raw.sizes]) hg8 hown8 hloc8)
        clear hown8 hg8 hloc8 hw7 z0 z1 z2 z3 z4
        go_wp2_with fail
        go_roundw
        case rel => exact ⟨k - 1, s ++ [(⟨.node 1 nm (r1 : Int) [], false⟩ : Lfc.Opd)], A8, c8, _, by rw [HLN]; omega, by first | rfl | (rw [← hkm]; done) | go_num | (simp; omega), by rw [HLN], M8⟩
        case measure => simp [intOf] <;> omega
      · go_wp2_with fail
        refine (raw_any 1 (by omega) T _ T4.out).mono ?_
        rintro e w5 ⟨⟨t9, v9, rfl, hv9, hf9, hs9, hd9⟩, T5, o5⟩
        obtain ⟨k9, n9, p9, us9⟩ := t9
        obtain ⟨A9, c9, rfl, tp9⟩ := hv9.open_
        have q5 := o5.heap Q4.out (Nat.ne_of_gt hTg)
        have hg5 : g < w4.heap.size := lt_of_block Q4.out
        obtain ⟨s1, s2, s3, s4, s5, g1, g2, g3, g4, g5, ⟨y0, y1, y2, y3, y4⟩, ⟨f0, f1, f2, f3, f4⟩, hq, ho⟩ := put5m q5 (.int .i64 k9) (S n9) (.int .i64 p9) (.slice A9 us9.length c9) (.bool true)
        have q6 := hq
        have o6 : Oth T wr s5 := (O4.out.trans o5).of_new (Oth.below (Below.refl _ _) ho hgr (by have := (O4.out.trans o5).size; omega))
        have t6 : TapeAt T s5 := T5.oth hTg ho
        have tpx : TreeP (fun b => wr.heap.size ≤ b) s5 (.node k9 n9 p9 us9) (.int .i64 k9) (S n9) (.int .i64 p9) (.slice A9 us9.length c9) := TreeP.keep (fun b hb hlt => ho.block b hlt (fun e => by have := Option.some.inj e; omega)) ho.size (fun b _ hb => by omega) _ _ _ _ _ tp9
        have TPX := Lib.hid tpx
        have hsz9 : (Lfc.Raw.node k9 n9 p9 us9).size ≤ 100 := by omega
        clear hv9 hf9 hd9 hs9 T5 o5 q5 hq ho tp9 tpx
        go_upto_region 16 with fail
        clear y0 y1 y2 y3 y4 f0 f1 f2 f3 f4 g1 g2 g3 g4 g5
        obtain ⟨z0, z1, z2, z3, z4⟩ := cells5m q6
        obtain ⟨w7, hw7, b7, hc7⟩ := lay5m s5 (.int .i64 k9) (S n9) (.int .i64 p9) (.slice A9 us9.length c9) (.bool true)
        have OW7 := Lib.hid (own_below (HOW.out s5 o6) b7)
        have hsz7 : w.heap.size ≤ w7.heap.size := Nat.le_trans (Nat.le_trans hs1 o6.size) b7.size
        have HC7 := Lib.hid hc7
        have TP6 : Hid (TreeP (fun b => wr.heap.size ≤ b) s5 (.node k9 n9 p9 us9) (.int .i64 k9) (S n9) (.int .i64 p9) (.slice A9 us9.length c9)) := Lib.hid (TPX.out)
        have T6 := Lib.hid t6
        have O6 := Lib.hid o6
        clear b7 hc7 t6 o6 q6
        go_wp2_with (at_builtin; refine wpList_append_own_at _ rfl _ _ 28 rfl w.heap.size 42 it (.agg #[.int .i64 0, S [], .int .i64 0, .slice none 0 0, .bool false]) 5 64 Tryd.underlying28 hi hz0 hz1 hz2 rfl (by decide) _ s.length xs rfl OW7.out ⟨s5.heap.size, 0, none⟩ 1 1 [.int .i64 k9, S n9, .int .i64 p9, .slice A9 us9.length c9, .bool true] rfl rfl HC7.out oneCell5m hlm hl64 hsz7 ?_)
        intro v8 w8 hown8 hg8 _ hloc8
        obtain ⟨A8, c8, rfl⟩ := own_form hown8
        have HLN : (s ++ [(⟨.node k9 n9 p9 us9, true⟩ : Lfc.Opd)]).length = s.length + 1 := by simp
        have M8 : Hid (MadeP w T (s ++ [(⟨.node k9 n9 p9 us9, true⟩ : Lfc.Opd)]) (.slice A8 (s ++ [(⟨.node k9 n9 p9 us9, true⟩ : Lfc.Opd)]).length c8) (xs ++ [.int .i64 k9, S n9, .int .i64 p9, .slice A9 us9.length c9, .bool true]) w8) := Lib.hid (by rw [HLN]; rw [← hw7] at hg8 hloc8; exact HI.out.push (x := (⟨.node k9 n9 p9 us9, true⟩ : Lfc.Opd)) hTw T6.out O6.out TP6.out (hsz9) hg8 hown8 hloc8)
        clear hown8 hg8 hloc8 hw7 z0 z1 z2 z3 z4
        go_wp2_with fail
        go_roundw
        case rel => exact ⟨k - 1, s ++ [(⟨.node k9 n9 p9 us9, true⟩ : Lfc.Opd)], A8, c8, _, by rw [HLN]; omega, by first | rfl | (rw [← hkm]; done) | go_num | (simp; omega), by rw [HLN], M8⟩
        case measure => simp [intOf] <;> omega
end Go.Proofs.YtkhfnkokdmoipaaDoor
