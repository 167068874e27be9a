/- Parts of the proof that no input makes the law false: PaExp2. -/
import Derived.Test.YthajalgkjonaaaaGreatDoorPxW
set_option linter.unusedVariables false
set_option linter.unusedSimpArgs false
namespace Lfc
theorem opd_stop {p : PE} {k : Nat} {s : List UInt8} (f : Nat) (h1 : (p.pk k).kind = 2) (h2 : (p.pk k).text = s) (hs : s = [41] ∨ s = [58] ∨ s = [125] ∨ s = [93]) : p.opdF (f + 1) k = .ok none k := by
 rw [PE.opdF]
 unfold PE.opdG
 rw [h1, h2]
 rcases hs with rfl | rfl | rfl | rfl <;> rfl
theorem wf_parts {t : Raw} : t.wf = 0 ↔ t.form = true ∧ t.size ≤ 4096 ∧ t.depth ≤ 128 := by
 unfold Raw.wf
 cases hf : t.form
 ·simp
 ·simp only [Bool.not_true, Bool.false_eq_true, if_false]
  split
  ·simp; omega
  ·simp; omega
theorem wf_two {k p : Int} {n : List UInt8} {x y : Raw} (h : (Raw.node k n p [x, y]).wf = 0) (fx : x.form = true) (fy : y.form = true) : x.wf = 0 ∧ y.wf = 0 := by
 obtain ⟨_, h2, h3⟩ := wf_parts.1 h
 simp only [Raw.size, Raw.sizes, Raw.depth, Raw.depths] at h2 h3
 exact ⟨wf_parts.2 ⟨fx, by omega, by omega⟩, wf_parts.2 ⟨fy, by omega, by omega⟩⟩
theorem wf_one {k p : Int} {n : List UInt8} {x : Raw} (h : (Raw.node k n p [x]).wf = 0) (fx : x.form = true) : x.wf = 0 := by
 obtain ⟨_, h2, h3⟩ := wf_parts.1 h
 simp only [Raw.size, Raw.sizes, Raw.depth, Raw.depths] at h2 h3
 exact wf_parts.2 ⟨fx, by omega, by omega⟩
theorem noOp_closed (ops : List Op) (t : Raw) : NoOp ops ⟨t, true⟩ := rfl
theorem noOp_kind (ops : List Op) (t : Raw) (h : t.kind ≠ 1) : NoOp ops ⟨t, false⟩ := by
 unfold NoOp opOf
 simp [h]
theorem name_arrR {n : List UInt8} (h : isName n = true) : n ≠ arrR ∧ n ≠ arrL := by
 have := name_res h
 exact ⟨fun e => by rw [e] at this; exact absurd this (by decide), fun e => by rw [e] at this; exact absurd this (by decide)⟩
theorem leaf_arrow {n : List UInt8} {p : Int} (h : isName n = true) : (⟨.node 1 n p [], false⟩ : Opd).arrow = false := by
 obtain ⟨h1, h2⟩ := name_arrR h
 simp [Opd.arrow, Raw.name, h1, h2]
theorem noOp_name {ops : List Op} {q : List (List UInt8)} (hq : ∀ o ∈ ops, o.name ∈ q) {n : List UInt8} {p : Int} (h : isName n = true) (hn : n ∉ q) : NoOp ops ⟨.node 1 n p [], false⟩ := by
 obtain ⟨h1, h2⟩ := name_arrR h
 show look ops n = none
 unfold look
 rw [if_neg h1, if_neg h2, List.find?_eq_none]
 intro o ho
 simp only [decide_eq_true_eq]
 intro e
 exact hn (e ▸ hq o ho)
theorem same_node {k p p' : Int} {n : List UInt8} {xs ys : List Raw} (h : Raw.sames false xs ys = true) : Raw.same false (.node k n p xs) (.node k n p' ys) = true := by
 simp [Raw.same, h]
theorem sames_two {a b x y : Raw} (h : Raw.same false a x = true) (h' : Raw.same false b y = true) : Raw.sames false [a, b] [x, y] = true := by
 simp [Raw.sames, h, h']
theorem kts_pos (q : List (List UInt8)) (t : Raw) : 1 ≤ (t.kts q).length := by
 obtain ⟨k, n, p, ts⟩ := t
 simp only [Raw.kts, putKT]
 repeat' split
 all_goals simp [putKT]
 all_goals (first | omega | (split <;> simp <;> omega) | skip)
theorem is_true {p : PE} {k : Nat} {s : List UInt8} (h1 : (p.pk k).kind = 2) (h2 : (p.pk k).text = s) : p.is k 2 s = true := by simp [PE.is, h1, h2]
theorem is_false {p : PE} {k : Nat} {s t : List UInt8} (h2 : (p.pk k).text = t) (h : t ≠ s) : p.is k 2 s = false := by simp [PE.is, h2, h]
theorem punct_ok' {p : PE} {k : Nat} {s : List UInt8} (h1 : (p.pk k).kind = 2) (h2 : (p.pk k).text = s) : p.punct k s = .ok () (k + 1) := by
 unfold PE.punct
 rw [if_pos (is_true h1 h2)]
theorem par_of {p : PE} {f k k' : Nat} {t : Raw} (h40 : (p.pk k).kind = 2 ∧ (p.pk k).text = [40]) (h : p.exprG (p.opdF f) (k + 1) = .ok t k') (h41 : (p.pk k').kind = 2 ∧ (p.pk k').text = [41]) : p.opdF (f + 1) k = .ok (some ⟨t, true⟩) (k' + 1) := by
 rw [PE.opdF]
 unfold PE.opdG
 rw [h40.1, h40.2]
 have : p.parG (p.opdF f) k = .ok ⟨t, true⟩ (k' + 1) := by
  unfold PE.parG
  rw [h]
  simp only [PR.then]
  rw [if_neg (by rw [is_false h41.2 (by decide)]; simp)]
  simp only [PR.then]
  rw [punct_ok' h41.1 h41.2]
 show (p.parG (p.opdF f) k).opt = _
 rw [this]
 rfl
theorem bindN_of {p : PE} {k : Nat} {n : List UInt8} (hn : isName n = true ∨ n = [95]) (h1 : (p.pk k).kind = if reservedB n then 2 else 1) (h2 : (p.pk k).text = n) : p.bindN k = .ok n (k + 1) := by
 unfold PE.bindN
 rcases hn with h | rfl
 ·rw [name_res h] at h1
  rw [if_neg (by simp [PE.is, h1]), PE.name, if_pos (by simp [PE.isNm, h1, h2, h]), h2]
 ·rw [if_pos (is_true h1 h2)]
theorem bind_one {p : PE} {g : Nat → PR (Option Opd)} {kd : Int} {k k' : Nat} {n e : List UInt8} {u : Raw} (hn : isName n = true ∨ n = [95]) (h1 : (p.pk (k + 1)).kind = if reservedB n then 2 else 1) (h2 : (p.pk (k + 1)).text = n)
  (h3 : (p.pk (k + 2)).kind = 2) (h4 : (p.pk (k + 2)).text = e) (he : e ≠ [58]) (hu : p.exprG g (k + 3) = .ok u k') : p.bindG g kd e k = .ok ⟨.node kd n (p.pk k).pos [u], true⟩ k' := by
 unfold PE.bindG
 rw [bindN_of hn h1 h2]
 simp only [PR.then]
 rw [if_neg (by rw [is_false h4 he]; simp)]
 simp only
 rw [punct_ok' h3 h4]
 simp only
 rw [hu]
 rfl
theorem bind_two {p : PE} {g : Nat → PR (Option Opd)} {kd : Int} {k k1 k' : Nat} {n e : List UInt8} {u v : Raw} (hn : isName n = true ∨ n = [95]) (h1 : (p.pk (k + 1)).kind = if reservedB n then 2 else 1) (h2 : (p.pk (k + 1)).text = n)
  (h3 : (p.pk (k + 2)).kind = 2) (h4 : (p.pk (k + 2)).text = [58]) (hu : p.exprG g (k + 3) = .ok u k1) (h5 : (p.pk k1).kind = 2) (h6 : (p.pk k1).text = e) (hv : p.exprG g (k1 + 1) = .ok v k') : p.bindG g kd e k = .ok ⟨.node kd n (p.pk k).pos [u, v], true⟩ k' := by
 unfold PE.bindG
 rw [bindN_of hn h1 h2]
 simp only [PR.then]
 rw [if_pos (is_true h3 h4), hu]
 simp only
 rw [punct_ok' h5 h6]
 simp only
 rw [hv]
 rfl
theorem opd_bind {p : PE} {f k k' : Nat} {kd : Int} {o e : List UInt8} {x : Opd} (hk : (kd = 7 ∧ o = [123] ∧ e = [125]) ∨ (kd = 8 ∧ o = [91] ∧ e = [93])) (h1 : (p.pk k).kind = 2) (h2 : (p.pk k).text = o) (h : p.bindG (p.opdF f) kd e k = .ok x k') : p.opdF (f + 1) k = .ok (some x) k' := by
 rw [PE.opdF]
 unfold PE.opdG
 rw [h1, h2]
 rcases hk with ⟨rfl, rfl, rfl⟩ | ⟨rfl, rfl, rfl⟩
 ·show (p.bindG (p.opdF f) 7 [125] k).opt = _
  rw [h]; rfl
 ·show (p.bindG (p.opdF f) 8 [93] k).opt = _
  rw [h]; rfl
def Law (p : PE) (q : List (List UInt8)) (t : Raw) : Prop := ∀ f k, (t.kts q).length ≤ f → At p k (t.kts q) → ∃ x, p.opdF f k = .ok (some x) (k + (t.kts q).length) ∧ Raw.same false x.tree t = true ∧ NoOp p.ops x
theorem expr_one {p : PE} {q : List (List UInt8)} (ho : ∀ o ∈ p.ops, o.bad = 0) {t : Raw} (h : Law p q t) (hw : t.wf = 0) {f k : Nat} (hf : (t.kts q).length ≤ f) {s : List UInt8} (hs : s = [41] ∨ s = [58] ∨ s = [125] ∨ s = [93]) {K : List (Int × List UInt8)} (hA : At p k (t.kts q ++ (2, s) :: K)) :
  ∃ u, p.exprG (p.opdF f) k = .ok u (k + (t.kts q).length) ∧ Raw.same false u t = true ∧ At p (k + (t.kts q).length) ((2, s) :: K) := by
 obtain ⟨h1, h2⟩ := hA.app
 obtain ⟨x, e, hsm, hno⟩ := h f k hf h1
 obtain ⟨b1, b2, b3, b4⟩ := h2.head
 have hp := kts_pos q t
 obtain ⟨f', rfl⟩ : ∃ f', f = f' + 1 := ⟨f - 1, by omega⟩
 exact ⟨x.tree, exprG_chain (opd_stop f' b2 b3 hs) (xs := [x]) ⟨_, e, rfl⟩ (by simp; omega) (by simp) (res_one ho (.inl hno) (by rw [same_wf hsm]; exact hw)), hsm, h2⟩
theorem opd_text (p : PE) (q : List (List UInt8)) (ho : ∀ o ∈ p.ops, o.bad = 0) (hq : ∀ o ∈ p.ops, o.name ∈ q) (m : Nat) : ∀ t : Raw, t.size ≤ m → t.wf = 0 → Law p q t := by
 induction m with
 | zero => intro t h; have := t.size_pos; omega
 | succ m ih =>
  intro t hm hw f k hf hA
  have hform := (wf_parts.1 hw).1
  obtain ⟨kd, n, ps, ts⟩ := t
  have hp := kts_pos q (.node kd n ps ts)
  obtain ⟨f, rfl⟩ : ∃ f', f = f' + 1 := ⟨f - 1, by omega⟩
  have H2 : Raw.kts q (.node kd n ps ts) = putKT q kd n (Raw.ktss q ts) := rfl
  rcases shapes hform with ⟨hk, rfl, h1, h2, _⟩ | ⟨hk, rfl, x, y, rfl, fx, fy, _⟩ | ⟨hk, hn, x, rfl, fx, _⟩ | ⟨hk, hn, x, y, rfl, fx, fy, _⟩
  ·rcases hk with rfl | rfl | rfl | rfl
   ·have hn := h1 (.inl rfl)
    by_cases hnq : n ∈ q
    ·have e : Raw.kts q (.node 1 n ps []) = [(2, [40]), (1, n), (2, [41])] := by rw [H2]; simp [putKT, hnq]
     rw [e] at hA hf ⊢
     obtain ⟨a1, a2, a3, hA⟩ := hA.head
     obtain ⟨b1, b2, b3, hA⟩ := hA.head
     obtain ⟨c1, c2, c3, _⟩ := hA.head
     obtain ⟨f, rfl⟩ : ∃ f', f = f' + 1 := ⟨f - 1, by simp at hf; omega⟩
     have hx : p.opdF (f + 1) (k + 1) = .ok (some ⟨.node 1 n (p.pk (k + 1)).pos [], false⟩) (k + 1 + 1) := by
      rw [PE.opdF]; unfold PE.opdG; rw [if_pos b2, b3, if_pos hn]; rfl
     have hwx : (Raw.node 1 n (p.pk (k + 1)).pos []).wf = 0 := by rw [same_wf (b := .node 1 n ps []) (same_node rfl)]; exact hw
     have := exprG_chain (opd_stop f c2 c3 (.inl rfl)) (xs := [_]) ⟨_, hx, rfl⟩ (by simp; omega) (by simp) (res_one ho (.inr (leaf_arrow hn)) hwx)
     exact ⟨_, par_of ⟨a2, a3⟩ this ⟨c2, c3⟩, same_node rfl, noOp_closed _ _⟩
    ·have e : Raw.kts q (.node 1 n ps []) = [(1, n)] := by rw [H2]; simp [putKT, hnq]
     rw [e] at hA hf ⊢
     obtain ⟨b1, b2, b3, hA⟩ := hA.head
     refine ⟨⟨.node 1 n (p.pk k).pos [], false⟩, ?_, same_node rfl, noOp_name hq hn hnq⟩
     rw [PE.opdF]; unfold PE.opdG; rw [if_pos b2, b3, if_pos hn]; rfl
   ·have hn := h1 (.inr rfl)
    have e : Raw.kts q (.node 2 n ps []) = [(1, 64 :: n)] := by rw [H2]; simp [putKT]
    rw [e] at hA hf ⊢
    obtain ⟨b1, b2, b3, hA⟩ := hA.head
    refine ⟨⟨.node 2 n (p.pk k).pos [], false⟩, ?_, same_node rfl, noOp_kind _ _ (by simp [Raw.kind])⟩
    rw [PE.opdF]; unfold PE.opdG; rw [if_pos b2, b3, if_neg (by simp [isName]), if_pos (by simp [hn])]; rfl
   ·obtain rfl := h2 (.inl rfl)
    have e : Raw.kts q (.node 3 [] ps []) = [(2, [95])] := by rw [H2]; simp [putKT]
    rw [e] at hA hf ⊢
    obtain ⟨b1, b2, b3, hA⟩ := hA.head
    refine ⟨⟨.node 3 [] (p.pk k).pos [], false⟩, ?_, same_node rfl, noOp_kind _ _ (by simp [Raw.kind])⟩
    rw [PE.opdF]; unfold PE.opdG; rw [b2, b3]; rfl
   ·obtain rfl := h2 (.inr rfl)
    have e : Raw.kts q (.node 4 [] ps []) = [(2, [116, 121, 112, 101])] := by rw [H2]; simp [putKT]
    rw [e] at hA hf ⊢
    obtain ⟨b1, b2, b3, hA⟩ := hA.head
    refine ⟨⟨.node 4 [] (p.pk k).pos [], false⟩, ?_, same_node rfl, noOp_kind _ _ (by simp [Raw.kind])⟩
    rw [PE.opdF]; unfold PE.opdG; rw [b2, b3]; rfl
  ·obtain ⟨wx, wy⟩ := wf_two hw fx fy
   simp only [Raw.size, Raw.sizes] at hm
   have Lx := ih x (by omega) wx
   have Ly := ih y (by omega) wy
   have px := kts_pos q x
   have py := kts_pos q y
   rcases hk with rfl | rfl | rfl
   ·have e : Raw.kts q (.node 5 [] ps [x, y]) = (2, [40]) :: (x.kts q ++ (y.kts q ++ [(2, [41])])) := by rw [H2]; simp [putKT, Raw.ktss]
    rw [e] at hA hf ⊢
    simp only [List.length_cons, List.length_append, List.length_nil] at hf
    obtain ⟨a1, a2, a3, hA⟩ := hA.head
    obtain ⟨hA1, hA⟩ := hA.app
    obtain ⟨hA2, hA⟩ := hA.app
    obtain ⟨c1, c2, c3, _⟩ := hA.head
    obtain ⟨u, eu, su, nu⟩ := Lx f (k + 1) (by omega) hA1
    obtain ⟨v, ev, sv, nv⟩ := Ly f _ (by omega) hA2
    obtain ⟨f, rfl⟩ : ∃ f', f = f' + 1 := ⟨f - 1, by omega⟩
    have hs : Raw.same false (appT u.tree v.tree) (.node 5 [] ps [x, y]) = true := same_node (sames_two su sv)
    have := exprG_chain (opd_stop f c2 c3 (.inl rfl)) (xs := [u, v]) ⟨_, eu, _, ev, rfl⟩ (by simp; omega) (by simp) (res_two ho nu nv (by rw [same_wf su]; exact wx) (by rw [same_wf sv]; exact wy) (by rw [same_wf hs]; exact hw))
    refine ⟨⟨_, true⟩, ?_, hs, noOp_closed _ _⟩
    rw [par_of ⟨a2, a3⟩ this ⟨c2, c3⟩]
    simp only [List.length_cons, List.length_append, List.length_nil]
    congr 1; omega
   ·have e : Raw.kts q (.node 6 [] ps [x, y]) = (2, [40]) :: (x.kts q ++ ((2, [45, 62]) :: (y.kts q ++ [(2, [41])]))) := by rw [H2]; simp [putKT, Raw.ktss]
    rw [e] at hA hf ⊢
    simp only [List.length_cons, List.length_append, List.length_nil] at hf
    obtain ⟨a1, a2, a3, hA⟩ := hA.head
    obtain ⟨hA1, hA⟩ := hA.app
    obtain ⟨d1, d2, d3, hA⟩ := hA.head
    obtain ⟨hA2, hA⟩ := hA.app
    obtain ⟨c1, c2, c3, _⟩ := hA.head
    obtain ⟨u, eu, su, nu⟩ := Lx f (k + 1) (by omega) hA1
    obtain ⟨v, ev, sv, nv⟩ := Ly f _ (by omega) hA2
    obtain ⟨f, rfl⟩ : ∃ f', f = f' + 1 := ⟨f - 1, by omega⟩
    have hs : Raw.same false (.node 6 [] (p.pk (k + 1 + (x.kts q).length)).pos [u.tree, v.tree]) (.node 6 [] ps [x, y]) = true := same_node (sames_two su sv)
    have ea : p.opdF (f + 1) (k + 1 + (x.kts q).length) = .ok (some ⟨.node 1 arrR (p.pk (k + 1 + (x.kts q).length)).pos [], false⟩) (k + 1 + (x.kts q).length + 1) := by
     rw [PE.opdF]; unfold PE.opdG; rw [d2, d3]; rw [PE.leaf]; rfl
    have := exprG_chain (opd_stop f c2 c3 (.inl rfl)) (xs := [u, _, v]) ⟨_, eu, _, ea, _, ev, rfl⟩ (by simp; omega) (by simp) (res_three ho nu nv (by rw [same_wf su]; exact wx) (by rw [same_wf sv]; exact wy) (by rw [same_wf hs]; exact hw))
    refine ⟨⟨_, true⟩, ?_, hs, noOp_closed _ _⟩
    rw [par_of ⟨a2, a3⟩ this ⟨c2, c3⟩]
    simp only [List.length_cons, List.length_append, List.length_nil]
    congr 1; omega
   ·have e : Raw.kts q (.node 9 [] ps [x, y]) = (2, [40]) :: (x.kts q ++ ((2, [58]) :: (y.kts q ++ [(2, [41])]))) := by rw [H2]; simp [putKT, Raw.ktss]
    rw [e] at hA hf ⊢
    simp only [List.length_cons, List.length_append, List.length_nil] at hf
    obtain ⟨a1, a2, a3, hA⟩ := hA.head
    obtain ⟨u, eu, su, hA⟩ := expr_one ho Lx wx (f := f) (by omega) (.inr (.inl rfl)) hA
    obtain ⟨d1, d2, d3, hA⟩ := hA.head
    obtain ⟨v, ev, sv, hA⟩ := expr_one ho Ly wy (f := f) (by omega) (.inl rfl) hA
    obtain ⟨c1, c2, c3, _⟩ := hA.head
    refine ⟨⟨.node 9 [] (p.pk k).pos [u, v], true⟩, ?_, same_node (sames_two su sv), noOp_closed _ _⟩
    rw [PE.opdF]
    unfold PE.opdG
    rw [a2, a3]
    have : p.parG (p.opdF f) k = .ok ⟨.node 9 [] (p.pk k).pos [u, v], true⟩ (k + 1 + (x.kts q).length + 1 + (y.kts q).length + 1) := by
     unfold PE.parG
     rw [eu]
     simp only [PR.then]
     rw [if_pos (is_true d2 d3), ev]
     simp only [PR.then]
     rw [punct_ok' c2 c3]
    show (p.parG (p.opdF f) k).opt = _
    rw [this]
    simp only [PR.opt, PR.then, List.length_cons, List.length_append, List.length_nil]
    congr 1; omega
  ·have wx := wf_one hw fx
   simp only [Raw.size, Raw.sizes] at hm
   have Lx := ih x (by omega) wx
   have px := kts_pos q x
   obtain ⟨o, e, hoe, e', he⟩ : ∃ o e : List UInt8, ((kd = 7 ∧ o = [123] ∧ e = [125]) ∨ (kd = 8 ∧ o = [91] ∧ e = [93])) ∧ Raw.kts q (.node kd n ps [x]) = (2, [40]) :: (2, o) :: (if reservedB n then 2 else 1, n) :: (2, e) :: (x.kts q ++ [(2, [41])]) ∧ (e = [125] ∨ e = [93]) := by
    rcases hk with rfl | rfl
    ·exact ⟨[123], [125], .inl ⟨rfl, rfl, rfl⟩, by rw [H2]; simp [putKT, Raw.ktss], .inl rfl⟩
    ·exact ⟨[91], [93], .inr ⟨rfl, rfl, rfl⟩, by rw [H2]; simp [putKT, Raw.ktss], .inr rfl⟩
   rw [e'] at hA hf ⊢
   simp only [List.length_cons, List.length_append, List.length_nil] at hf
   obtain ⟨a1, a2, a3, hA⟩ := hA.head
   obtain ⟨b1, b2, b3, hA⟩ := hA.head
   obtain ⟨c1, c2, c3, hA⟩ := hA.head
   obtain ⟨d1, d2, d3, hA⟩ := hA.head
   obtain ⟨f, rfl⟩ : ∃ f', f = f' + 1 := ⟨f - 1, by omega⟩
   obtain ⟨u, eu, su, hA⟩ := expr_one ho Lx wx (f := f) (by omega) (.inl rfl) hA
   obtain ⟨g1, g2, g3, _⟩ := hA.head
   have hb := opd_bind hoe b2 b3 (bind_one (kd := kd) hn c2 c3 d2 d3 (by rcases he with rfl | rfl <;> decide) eu)
   have hs : Raw.same false (.node kd n (p.pk (k + 1)).pos [u]) (.node kd n ps [x]) = true := same_node (by simp [Raw.sames, su])
   have := exprG_chain (opd_stop f g2 g3 (.inl rfl)) (xs := [_]) ⟨_, hb, rfl⟩ (by simp; omega) (by simp) (res_one ho (.inl (noOp_closed _ _)) (by rw [same_wf hs]; exact hw))
   refine ⟨⟨_, true⟩, ?_, hs, noOp_closed _ _⟩
   rw [par_of ⟨a2, a3⟩ this ⟨g2, g3⟩]
   simp only [List.length_cons, List.length_append, List.length_nil]
   congr 1; omega
  ·obtain ⟨wx, wy⟩ := wf_two hw fx fy
   simp only [Raw.size, Raw.sizes] at hm
   have Lx := ih x (by omega) wx
   have Ly := ih y (by omega) wy
   have px := kts_pos q x
   have py := kts_pos q y
   obtain ⟨o, e, hoe, e', he⟩ : ∃ o e : List UInt8, ((kd = 7 ∧ o = [123] ∧ e = [125]) ∨ (kd = 8 ∧ o = [91] ∧ e = [93])) ∧ Raw.kts q (.node kd n ps [x, y]) = (2, [40]) :: (2, o) :: (if reservedB n then 2 else 1, n) :: (2, [58]) :: (x.kts q ++ ((2, e) :: (y.kts q ++ [(2, [41])]))) ∧ (e = [125] ∨ e = [93]) := by
    rcases hk with rfl | rfl
    ·exact ⟨[123], [125], .inl ⟨rfl, rfl, rfl⟩, by rw [H2]; simp [putKT, Raw.ktss], .inl rfl⟩
    ·exact ⟨[91], [93], .inr ⟨rfl, rfl, rfl⟩, by rw [H2]; simp [putKT, Raw.ktss], .inr rfl⟩
   rw [e'] at hA hf ⊢
   simp only [List.length_cons, List.length_append, List.length_nil] at hf
   obtain ⟨a1, a2, a3, hA⟩ := hA.head
   obtain ⟨b1, b2, b3, hA⟩ := hA.head
   obtain ⟨c1, c2, c3, hA⟩ := hA.head
   obtain ⟨d1, d2, d3, hA⟩ := hA.head
   obtain ⟨f, rfl⟩ : ∃ f', f = f' + 1 := ⟨f - 1, by omega⟩
   obtain ⟨u, eu, su, hA⟩ := expr_one ho Lx wx (f := f) (by omega) (by rcases he with rfl | rfl <;> simp) hA
   obtain ⟨g1, g2, g3, hA⟩ := hA.head
   obtain ⟨v, ev, sv, hA⟩ := expr_one ho Ly wy (f := f) (by omega) (.inl rfl) hA
   obtain ⟨i1, i2, i3, _⟩ := hA.head
   have hb := opd_bind hoe b2 b3 (bind_two (kd := kd) hn c2 c3 d2 d3 eu g2 g3 ev)
   have hs : Raw.same false (.node kd n (p.pk (k + 1)).pos [u, v]) (.node kd n ps [x, y]) = true := same_node (sames_two su sv)
   have := exprG_chain (opd_stop f i2 i3 (.inl rfl)) (xs := [_]) ⟨_, hb, rfl⟩ (by simp; omega) (by simp) (res_one ho (.inl (noOp_closed _ _)) (by rw [same_wf hs]; exact hw))
   refine ⟨⟨_, true⟩, ?_, hs, noOp_closed _ _⟩
   rw [par_of ⟨a2, a3⟩ this ⟨i2, i3⟩]
   simp only [List.length_cons, List.length_append, List.length_nil]
   congr 1; omega
theorem expr_text (toks : List Tok) (fin : Nat) (ops : List Op) (q : List (List UInt8)) (ho : ∀ o ∈ ops, o.bad = 0) (hq : ∀ o ∈ ops, o.name ∈ q) (t : Raw) (hw : t.wf = 0) (ht : toks.map kt = t.kts q) :
  ∃ u, PE.expr ⟨toks, fin, ops⟩ 0 = .ok u toks.length ∧ Raw.same false u t = true := by
 have hl : (t.kts q).length = toks.length := by rw [← ht, List.length_map]
 obtain ⟨x, e, hs, hn⟩ := opd_text ⟨toks, fin, ops⟩ q ho hq t.size t (Nat.le_refl _) hw (toks.length + 1) 0 (by omega) ⟨[], by simpa using ht⟩
 rw [Nat.zero_add, hl] at e
 have hp := kts_pos q t
 have hend : PE.opdF ⟨toks, fin, ops⟩ (toks.length + 1) toks.length = .ok none toks.length := by
  rw [PE.opdF]
  unfold PE.opdG
  have : PE.pk ⟨toks, fin, ops⟩ toks.length = ⟨0, [], fin⟩ := by
   unfold PE.pk
   rw [List.getD_eq_getElem?_getD, List.getElem?_eq_none (Nat.le_refl _)]; rfl
  rw [this]
  rfl
 exact ⟨x.tree, exprG_chain hend (xs := [x]) ⟨_, e, rfl⟩ (by simp; omega) (by simp) (res_one ho (.inl hn) (by rw [same_wf hs]; exact hw)), hs⟩
end Lfc
