/- Parts of the proof that no input makes the law false: PaSim, PaSim2, PaSpl, RawMem, RawText, RawTextP, PaLex. -/
import Derived.Test.YthajalgkjonaaaaGreatDoorSxAA
import Derived.Test.YthajalgkjonaaaaGreatDoorSxAB
import Derived.Test.YthajalgkjonaaaaGreatDoorSxAC
set_option linter.unusedVariables false
set_option linter.unusedSimpArgs false
namespace Lfc
structure Rel (p q : PE) (d : Nat) (lim : Nat → Prop) (A : Nat → Nat → Prop) (E : Prop) : Prop where
 ops : q.ops = p.ops
 le : p.toks.length ≤ q.toks.length
 down : ∀ k k', k ≤ k' → lim k' → lim k
 kind : ∀ k, lim k → (q.pk (k + d)).kind = (p.pk k).kind
 text : ∀ k, lim k → (q.pk (k + d)).text = (p.pk k).text
 pos : ∀ k, lim k → A (p.pk k).pos (q.pk (k + d)).pos
 all : E → ∀ k, lim k
 len : E → ∀ k, k = p.toks.length ↔ k + d = q.toks.length
 fin : E → A p.fin q.fin
def SimE (e d : Nat) (lim : Nat → Prop) (A : Nat → Nat → Prop) (E : Prop) {α : Type} (k : Nat) (r s : PR α) (R : α → α → Prop) : Prop :=
 (∀ x k', r = .ok x k' → k + e ≤ k' ∧ (lim (k' - e) → ∃ y, s = .ok y (k' + d) ∧ R x y)) ∧ (E → ∀ c a, r = .err c a → ∃ a', s = .err c a' ∧ A a a')
abbrev Sim (d : Nat) (lim : Nat → Prop) (A : Nat → Nat → Prop) (E : Prop) {α : Type} (k : Nat) (r s : PR α) (R : α → α → Prop) : Prop := SimE 0 d lim A E k r s R
section
variable {p q : PE} {d : Nat} {lim : Nat → Prop} {A : Nat → Nat → Prop} {E : Prop}
theorem SimE.then {α β : Type} {e : Nat} (H : Rel p q d lim A E) {k : Nat} {r s : PR α} {f g : α → Nat → PR β} {R : α → α → Prop} {R' : β → β → Prop} (h : Sim d lim A E k r s R)
  (hf : ∀ x y k1, k ≤ k1 → (lim k1 → R x y) → SimE e d lim A E k1 (f x k1) (g y (k1 + d)) R') : SimE e d lim A E k (r.then f) (s.then g) R' := by
 refine ⟨fun z k' e => ?_, fun hE c a e => ?_⟩
 ·obtain ⟨x, k1, e1, e2⟩ := PR.then_ok e
  obtain ⟨h1, h2⟩ := h.1 x k1 e1
  have h1 : k ≤ k1 := h1
  by_cases hl : lim k1
  ·obtain ⟨y, e3, hR⟩ := h2 hl
   obtain ⟨h3, h4⟩ := (hf x y k1 h1 (fun _ => hR)).1 z k' e2
   refine ⟨by omega, fun hl' => ?_⟩
   rw [e3]
   exact h4 hl'
  ·obtain ⟨h3, h4⟩ := (hf x x k1 h1 (fun hl' => absurd hl' hl)).1 z k' e2
   exact ⟨by omega, fun hl' => absurd (H.down _ _ (by omega) hl') hl⟩
 ·cases r with
  | out => cases e
  | err c' a' =>
   cases e
   obtain ⟨b, e1, hA⟩ := h.2 hE c a rfl
   exact ⟨b, by rw [e1]; rfl, hA⟩
  | ok x k1 =>
   obtain ⟨h1, h2⟩ := h.1 x k1 rfl
   obtain ⟨y, e3, hR⟩ := h2 (H.all hE k1)
   obtain ⟨b, e1, hA⟩ := (hf x y k1 h1 (fun _ => hR)).2 hE c a e
   exact ⟨b, by rw [e3]; exact e1, hA⟩
theorem SimE.ite {α : Type} {i : Nat} (H : Rel p q d lim A E) {k : Nat} {c c' : Prop} [Decidable c] [Decidable c'] {r1 r2 s1 s2 : PR α} {R : α → α → Prop} (hc : lim k → (c ↔ c')) (h1 : SimE i d lim A E k r1 s1 R) (h2 : SimE i d lim A E k r2 s2 R) : SimE i d lim A E k (if c then r1 else r2) (if c' then s1 else s2) R := by
 by_cases hl : lim k
 ·by_cases h : c
  ·rw [if_pos h, if_pos ((hc hl).1 h)]; exact h1
  ·rw [if_neg h, if_neg (fun h' => h ((hc hl).2 h'))]; exact h2
 ·refine ⟨fun x k' e => ?_, fun hE => absurd (H.all hE k) hl⟩
  have : k + i ≤ k' := by
   split at e
   ·exact (h1.1 x k' e).1
   ·exact (h2.1 x k' e).1
  exact ⟨this, fun hl' => absurd (H.down _ _ (by omega) hl') hl⟩
theorem SimE.mono {α : Type} {e : Nat} {k : Nat} {r s : PR α} {R R' : α → α → Prop} (h : SimE e d lim A E k r s R) (hR : ∀ x y, R x y → R' x y) : SimE e d lim A E k r s R' :=
 ⟨fun x k' e => ⟨(h.1 x k' e).1, fun hl => let ⟨y, e1, h1⟩ := (h.1 x k' e).2 hl; ⟨y, e1, hR x y h1⟩⟩, h.2⟩
theorem Sim.ok {α : Type} {k k1 k2 : Nat} {x y : α} {R : α → α → Prop} (hk : k ≤ k1) (e : k2 = k1 + d) (h : lim k1 → R x y) : Sim d lim A E k (.ok x k1) (.ok y k2) R := by
 subst e
 exact ⟨fun z k' e => by cases e; exact ⟨hk, fun hl => ⟨y, rfl, h hl⟩⟩, fun _ c a e => by cases e⟩
theorem SimE.err {α : Type} {i : Nat} {k a a' : Nat} {c : Int} {R : α → α → Prop} (h : E → A a a') : SimE i d lim A E k (.err c a) (.err c a') R := by
 refine ⟨fun z k' e => (nomatch e), fun hE c a e => ?_⟩
 cases e
 exact ⟨a', rfl, h hE⟩
theorem SimE.out {α : Type} {e : Nat} {k : Nat} {s : PR α} {R : α → α → Prop} : SimE e d lim A E k .out s R := ⟨fun z k' e => (nomatch e), fun hE c a e => (nomatch e)⟩
theorem SimE.unexp {α : Type} {i : Nat} (H : Rel p q d lim A E) {k k2 : Nat} (e : k2 = k + d) {R : α → α → Prop} : SimE i d lim A E k (p.unexp k : PR α) (q.unexp k2) R := by
 subst e
 refine ⟨fun x k' e => (PE.unexp_ok e).elim, fun hE c a e => ?_⟩
 unfold PE.unexp at e ⊢
 by_cases h : k = p.toks.length
 ·rw [if_pos h] at e
  rw [if_pos ((H.len hE k).1 h)]
  cases e
  exact ⟨_, rfl, H.fin hE⟩
 ·rw [if_neg h] at e
  rw [if_neg (fun h' => h ((H.len hE k).2 h'))]
  cases e
  exact ⟨_, rfl, H.pos k (H.all hE k)⟩
theorem SimE.later {α : Type} {e : Nat} {k k1 : Nat} {r s : PR α} {R : α → α → Prop} (h : SimE e d lim A E k1 r s R) (hk : k ≤ k1) : SimE e d lim A E k r s R := ⟨fun x k' e => ⟨by have := (h.1 x k' e).1; omega, (h.1 x k' e).2⟩, h.2⟩
theorem SimE.map {α β : Type} {e : Nat} {k : Nat} {r s : PR α} {F G : α → β} {R : α → α → Prop} {R' : β → β → Prop} (h : SimE e d lim A E k r s R) (hR : ∀ x y k1, k + e ≤ k1 → lim (k1 - e) → R x y → R' (F x) (G y)) : SimE e d lim A E k (r.then fun x k1 => .ok (F x) k1) (s.then fun x k1 => .ok (G x) k1) R' := by
 refine ⟨fun z k' e => ?_, fun hE c a e => ?_⟩
 ·obtain ⟨x, k1, e1, e2⟩ := PR.then_ok e
  cases e2
  obtain ⟨h1, h2⟩ := h.1 x k' e1
  refine ⟨h1, fun hl => ?_⟩
  obtain ⟨y, e3, hxy⟩ := h2 hl
  exact ⟨G y, by rw [e3]; rfl, hR x y k' h1 hl hxy⟩
 ·cases r with
  | out => cases e
  | err c' a' =>
   cases e
   obtain ⟨b, e1, hA⟩ := h.2 hE c a rfl
   exact ⟨b, by rw [e1]; rfl, hA⟩
  | ok x k1 => cases e
theorem Rel.is (H : Rel p q d lim A E) {k : Nat} (hl : lim k) (kd : Int) (s : List UInt8) : q.is (k + d) kd s = p.is k kd s := by unfold PE.is; rw [H.kind k hl, H.text k hl]
theorem Rel.nm (H : Rel p q d lim A E) {k : Nat} (hl : lim k) : q.isNm (k + d) = p.isNm k := by unfold PE.isNm; rw [H.kind k hl, H.text k hl]
theorem sim_punct (H : Rel p q d lim A E) (k : Nat) (s : List UInt8) : Sim d lim A E k (p.punct k s) (q.punct (k + d) s) Eq := by
 unfold PE.punct
 exact SimE.ite H (fun hl => by rw [H.is hl]) (Sim.ok (Nat.le_succ k) (by omega) fun _ => rfl) (SimE.unexp H rfl)
theorem sim_dotF (H : Rel p q d lim A E) {β : Type} (k : Nat) (s : List UInt8) {F G : Nat → PR β} {R : β → β → Prop} (h1 : ∀ x k', F (k + 1) = .ok x k' → k' = k + 1 ∧ (lim k → ∃ y, G (k + 1 + d) = .ok y (k + 1 + d) ∧ R x y)) (h2 : E → ∀ c a, F (k + 1) = .err c a → ∃ a', G (k + 1 + d) = .err c a' ∧ A a a') :
  SimE 1 d lim A E k ((p.punct k s).then fun _ k1 => F k1) ((q.punct (k + d) s).then fun _ k1 => G k1) R := by
 unfold PE.punct
 cases hp : p.is k 2 s
 ·have hu : (p.unexp k : PR Unit).then (fun _ k1 => F k1) = p.unexp k := by
   unfold PE.unexp
   split <;> rfl
  have hv : (q.unexp (k + d) : PR Unit).then (fun _ k1 => G k1) = q.unexp (k + d) := by
   unfold PE.unexp
   split <;> rfl
  rw [if_neg (by decide), hu]
  refine ⟨fun x k' e => (PE.unexp_ok e).elim, fun hE => ?_⟩
  rw [H.is (H.all hE k), hp, if_neg (by decide), hv]
  exact (SimE.unexp (i := 1) (R := R) H rfl).2 hE
 ·rw [if_pos rfl, show k + d + 1 = k + 1 + d by omega]
  refine ⟨fun x k' e => ?_, fun hE c a e => ?_⟩
  ·obtain ⟨rfl, h⟩ := h1 x k' e
   refine ⟨Nat.le_refl _, fun hl => ?_⟩
   have hl : lim k := hl
   rw [H.is hl, hp, if_pos rfl]
   exact h hl
  ·rw [H.is (H.all hE k), hp, if_pos rfl]
   exact h2 hE c a e
theorem sim_dot (H : Rel p q d lim A E) {β : Type} (k : Nat) (s : List UInt8) {x y : β} {R : β → β → Prop} (h : lim k → R x y) : SimE 1 d lim A E k ((p.punct k s).then fun _ k1 => .ok x k1) ((q.punct (k + d) s).then fun _ k1 => .ok y k1) R :=
 sim_dotF H k s (fun z k' e => by cases e; exact ⟨rfl, fun hl => ⟨y, rfl, h hl⟩⟩) (fun _ c a e => by cases e)
theorem sim_name (H : Rel p q d lim A E) (k : Nat) : Sim d lim A E k (p.name k) (q.name (k + d)) Eq := by
 unfold PE.name
 refine SimE.ite H (fun hl => by rw [H.nm hl]) (Sim.ok (Nat.le_succ k) (by omega) fun hl => ?_) (SimE.unexp H rfl)
 rw [H.text k (H.down _ _ (Nat.le_succ k) hl)]
theorem sim_number (H : Rel p q d lim A E) (k : Nat) (a b : Int) : Sim d lim A E k (p.number k a b) (q.number (k + d) a b) Eq := by
 unfold PE.number
 refine SimE.ite H (fun hl => by rw [H.text k hl, H.kind k hl]) (SimE.unexp H rfl) (Sim.ok (Nat.le_succ k) (by omega) fun hl => ?_)
 rw [H.text k (H.down _ _ (Nat.le_succ k) hl)]
theorem sim_word (H : Rel p q d lim A E) (k : Nat) (ws : List (List UInt8)) : Sim d lim A E k (p.word k ws) (q.word (k + d) ws) Eq := by
 unfold PE.word
 refine SimE.ite H (fun hl => by rw [H.text k hl, H.kind k hl]) (SimE.unexp H rfl) (Sim.ok (Nat.le_succ k) (by omega) fun hl => ?_)
 rw [H.text k (H.down _ _ (Nat.le_succ k) hl)]
def OpdsL (s t : List Opd) : Prop := s.map Opd.strip = t.map Opd.strip
def OptL (s t : Option Opd) : Prop := s.map Opd.strip = t.map Opd.strip
def RawL (s t : Raw) : Prop := s.strip = t.strip
def OpdL (s t : Opd) : Prop := s.strip = t.strip
def RawsL (s t : List Raw) : Prop := s.map Raw.strip = t.map Raw.strip
theorem OpdsL.len {s t : List Opd} (h : OpdsL s t) : s.length = t.length := by have := congrArg List.length h; simpa using this
theorem OpdsL.snoc {s t : List Opd} {x y : Opd} (h : OpdsL s t) (h' : OpdL x y) : OpdsL (s ++ [x]) (t ++ [y]) := by unfold OpdsL at h ⊢; rw [List.map_append, List.map_append, h, List.map_cons, List.map_cons, h']
def GSim (d : Nat) (lim : Nat → Prop) (A : Nat → Nat → Prop) (E : Prop) (g g' : Nat → PR (Option Opd)) : Prop := ∀ k, Sim d lim A E k (g k) (g' (k + d)) OptL
theorem sim_opdsG (H : Rel p q d lim A E) {g g' : Nat → PR (Option Opd)} (hg : GSim d lim A E g g') (hb : ∀ k k', g k = .ok none k' → k' = k) : ∀ (m m' k : Nat) (a a' : List Opd), m ≤ m' → (lim k → OpdsL a a') → Sim d lim A E k (opdsG g m k a) (opdsG g' m' (k + d) a') OpdsL
 | 0, _, _, _, _, _, _ => SimE.out
 | m + 1, 0, _, _, _, h, _ => absurd h (by omega)
 | m + 1, m' + 1, k, a, a', hm, ha => by
  have h1 := hg k
  rw [opdsG, opdsG]
  cases hr : g k with
  | out => exact SimE.out
  | err c b =>
   refine ⟨fun x k' e => (nomatch e), fun hE c1 b1 e => ?_⟩
   cases e
   obtain ⟨b', e1, hA⟩ := h1.2 hE c b hr
   rw [e1]
   exact ⟨b', rfl, hA⟩
  | ok o k1 =>
   obtain ⟨hk, h2⟩ := h1.1 o k1 hr
   cases o with
   | none =>
    obtain rfl := hb _ _ hr
    refine ⟨fun x k' e => ?_, fun hE c1 b1 e => (nomatch e)⟩
    cases e
    refine ⟨Nat.le_refl _, fun hl => ?_⟩
    obtain ⟨y, e1, hy⟩ := h2 hl
    cases y with
    | none => rw [e1]; exact ⟨a', rfl, ha hl⟩
    | some y => exact absurd hy (by simp [OptL])
   | some x =>
    by_cases hl : lim k1
    ·obtain ⟨y, e1, hy⟩ := h2 hl
     cases y with
     | none => exact absurd hy (by simp [OptL])
     | some y =>
      have hxy : OpdL x y := by simpa [OptL, OpdL] using hy
      rw [e1]
      have h3 := sim_opdsG H hg hb m m' k1 (a ++ [x]) (a' ++ [y]) (by omega) (fun _ => (ha (H.down _ _ hk hl)).snoc hxy)
      exact ⟨fun z k' e => ⟨Nat.le_trans hk (h3.1 z k' e).1, (h3.1 z k' e).2⟩, h3.2⟩
    ·have h3 := sim_opdsG H hg hb m m' k1 (a ++ [x]) (a ++ [x]) (by omega) (fun h => absurd h hl)
     refine ⟨fun z k' e => ⟨Nat.le_trans hk (h3.1 z k' e).1, fun hl' => absurd (H.down _ _ (h3.1 z k' e).1 hl') hl⟩, fun hE => absurd (H.all hE k1) hl⟩
theorem sim_exprG (H : Rel p q d lim A E) {g g' : Nat → PR (Option Opd)} (hg : GSim d lim A E g g') (hb : ∀ k k', g k = .ok none k' → k' = k) (k : Nat) : Sim d lim A E k (p.exprG g k) (q.exprG g' (k + d)) RawL := by
 unfold PE.exprG
 refine SimE.then H (sim_opdsG H hg hb _ _ k [] [] (by have := H.le; omega) (fun _ => rfl)) fun s t k1 hk1 hst => ?_
 refine SimE.ite H (fun hl => by rw [(hst hl).len]) (SimE.unexp H rfl) ?_
 rw [H.ops]
 refine SimE.ite H (fun hl => by rw [(resolved_like p.ops (hst hl)).2]) ?_ (Sim.ok (Nat.le_refl _) rfl fun hl => (resolved_like p.ops (hst hl)).1)
 by_cases hE : E
 ·rw [(resolved_like p.ops (hst (H.all hE k1))).2]
  exact SimE.err fun hE => H.pos k (H.all hE k)
 ·exact ⟨fun x k' e => (nomatch e), fun h => absurd h hE⟩
theorem sim_bindN (H : Rel p q d lim A E) (k : Nat) : Sim d lim A E k (p.bindN k) (q.bindN (k + d)) Eq := by
 unfold PE.bindN
 exact SimE.ite H (fun hl => by rw [H.is hl]) (Sim.ok (Nat.le_succ k) (by omega) fun _ => rfl) (sim_name H k)
theorem sim_parG (H : Rel p q d lim A E) {g g' : Nat → PR (Option Opd)} (hg : GSim d lim A E g g') (hb : ∀ k k', g k = .ok none k' → k' = k) (k : Nat) : Sim d lim A E (k + 1) (p.parG g k) (q.parG g' (k + d)) OpdL := by
 unfold PE.parG
 rw [show k + d + 1 = k + 1 + d by omega]
 refine SimE.then H (sim_exprG H hg hb (k + 1)) fun t u k1 _ htu => ?_
 refine SimE.then H (R := RawL) (SimE.ite H (fun hl => by rw [H.is hl]) ?_ (Sim.ok (Nat.le_refl _) rfl htu)) fun t1 u1 k2 _ h1 => SimE.then H (sim_punct H k2 _) fun _ _ k3 h23 _ => Sim.ok (Nat.le_refl _) rfl fun hl => ?_
 ·rw [show k1 + d + 1 = k1 + 1 + d by omega]
  have := SimE.then H (R' := RawL) (f := fun u k'' => .ok (.node 9 [] (p.pk k).pos [t, u]) k'') (g := fun v k'' => .ok (.node 9 [] (q.pk (k + d)).pos [u, v]) k'') (sim_exprG H hg hb (k1 + 1)) fun t2 u2 k2 h2 htu2 => Sim.ok (Nat.le_refl _) rfl fun hl => by
   have a := htu (H.down k1 k2 (by omega) hl)
   have b := htu2 hl
   unfold RawL at a b ⊢
   simp [strip_node, a, b]
  exact SimE.later this (Nat.le_succ _)
 ·have a := h1 (H.down k2 k3 h23 hl)
  unfold RawL at a
  simp [OpdL, Opd.strip, a]
theorem RawsL.snoc {s t : List Raw} {x y : Raw} (h : RawsL s t) (h' : RawL x y) : RawsL (s ++ [x]) (t ++ [y]) := by unfold RawsL at h ⊢; rw [List.map_append, List.map_append, h, List.map_cons, List.map_cons, h']
theorem sim_bindG (H : Rel p q d lim A E) {g g' : Nat → PR (Option Opd)} (hg : GSim d lim A E g g') (hb : ∀ k k', g k = .ok none k' → k' = k) (kd : Int) (en : List UInt8) (k : Nat) : Sim d lim A E (k + 1) (p.bindG g kd en k) (q.bindG g' kd en (k + d)) OpdL := by
 unfold PE.bindG
 rw [show k + d + 1 = k + 1 + d by omega]
 refine SimE.then H (sim_bindN H (k + 1)) fun n n' k1 _ hn => ?_
 refine SimE.then H (R := RawsL) (SimE.ite H (fun hl => by rw [H.is hl]) ?_ (Sim.ok (Nat.le_refl _) rfl fun _ => rfl)) fun l l' k2 h12 h1 => SimE.then H (sim_punct H k2 _) fun _ _ k3 h23 _ => SimE.then H (sim_exprG H hg hb k3) fun u u' k4 h34 hu => Sim.ok (Nat.le_refl _) rfl fun hl => ?_
 ·rw [show k1 + d + 1 = k1 + 1 + d by omega]
  have := SimE.then H (R' := RawsL) (f := fun u k'' => .ok [u] k'') (g := fun v k'' => .ok [v] k'') (sim_exprG H hg hb (k1 + 1)) fun t2 u2 k2 h2 htu2 => Sim.ok (Nat.le_refl _) rfl fun hl => by
   have b := htu2 hl
   unfold RawL at b
   simp [RawsL, b]
  exact SimE.later this (Nat.le_succ _)
 ·have a := (h1 (H.down k2 k4 (by omega) hl)).snoc (hu hl)
  have b := hn (H.down k1 k4 (by omega) hl)
  unfold RawsL at a
  simp only [OpdL, Opd.strip, strip_node, a, b]
theorem sim_opt {k : Nat} (H : Rel p q d lim A E) {r s : PR Opd} (h : Sim d lim A E k r s OpdL) : Sim d lim A E k r.opt s.opt OptL := SimE.then H h fun x y k1 _ hxy => Sim.ok (Nat.le_refl _) rfl fun hl => by
 have := hxy hl
 unfold OpdL at this
 simp [OptL, this]
theorem sim_leaf (H : Rel p q d lim A E) (k : Nat) (kd : Int) {n n' : List UInt8} (hn : lim k → n = n') : Sim d lim A E k (p.leaf k kd n) (q.leaf (k + d) kd n') OptL := by
 unfold PE.leaf
 refine Sim.ok (Nat.le_succ k) (by omega) fun hl => ?_
 simp [OptL, Opd.strip, strip_node, hn (H.down _ _ (Nat.le_succ k) hl)]
theorem sim_opdG (H : Rel p q d lim A E) {g g' : Nat → PR (Option Opd)} (hg : GSim d lim A E g g') (hb : ∀ k k', g k = .ok none k' → k' = k) (k : Nat) : Sim d lim A E k (p.opdG g k) (q.opdG g' (k + d)) OptL := by
 unfold PE.opdG
 have T := H.text k
 have K := H.kind k
 have N : Sim d lim A E k (PR.ok (none : Option Opd) k) (.ok none (k + d)) OptL := Sim.ok (Nat.le_refl _) rfl fun _ => rfl
 refine SimE.ite H (fun hl => by rw [K hl]) ?_ ?_
 ·refine SimE.ite H (fun hl => by rw [T hl]) (sim_leaf H k 1 fun hl => (T hl).symm) ?_
  exact SimE.ite H (fun hl => by rw [T hl]) (sim_leaf H k 2 fun hl => by rw [T hl]) N
 refine SimE.ite H (fun hl => by rw [K hl]) N ?_
 refine SimE.ite H (fun hl => by rw [T hl]) (sim_leaf H k 3 fun _ => rfl) ?_
 refine SimE.ite H (fun hl => by rw [T hl]) (sim_leaf H k 4 fun _ => rfl) ?_
 refine SimE.ite H (fun hl => by rw [T hl]) (sim_leaf H k 1 fun hl => (T hl).symm) ?_
 refine SimE.ite H (fun hl => by rw [T hl]) (sim_opt H ((sim_parG H hg hb k).later (Nat.le_succ k))) ?_
 refine SimE.ite H (fun hl => by rw [T hl]) (sim_opt H ((sim_bindG H hg hb 7 _ k).later (Nat.le_succ k))) ?_
 exact SimE.ite H (fun hl => by rw [T hl]) (sim_opt H ((sim_bindG H hg hb 8 _ k).later (Nat.le_succ k))) N
theorem sim_opdF (H : Rel p q d lim A E) : ∀ (f f' : Nat), f ≤ f' → GSim d lim A E (p.opdF f) (q.opdF f')
 | 0, _, _ => fun k => SimE.out
 | f + 1, 0, h => absurd h (by omega)
 | f + 1, f' + 1, h => fun k => sim_opdG H (sim_opdF H f f' (by omega)) (opdF_b p f).2 k
theorem sim_expr (H : Rel p q d lim A E) (k : Nat) : Sim d lim A E k (p.expr k) (q.expr (k + d)) RawL := sim_exprG H (sim_opdF H _ _ (by have := H.le; omega)) (opdF_b p _).2 k
def bndS (b : Bnd) : Bnd := (b.1, b.2.strip)
def BndsL (s t : List Bnd) : Prop := s.map bndS = t.map bndS
def Itm.strip (x : Itm) : Itm := { x with pos := 0, type := x.type.map Raw.strip, value := x.value.map Raw.strip, som := x.som.map bndS, params := x.params.map bndS }
def ItL (x y : Itm × List Op) : Prop := x.1.strip = y.1.strip ∧ x.2 = y.2
theorem BndsL.snoc {s t : List Bnd} {n n' : List UInt8} {x y : Raw} (h : BndsL s t) (hn : n = n') (h' : RawL x y) : BndsL (s ++ [(n, x)]) (t ++ [(n', y)]) := by
 unfold BndsL at h ⊢
 unfold RawL at h'
 subst hn
 simp [h, bndS, h']
theorem sim_bindersF (H : Rel p q d lim A E) : ∀ (f f' k : Nat) (a a' : List Bnd), f ≤ f' → (lim k → BndsL a a') → Sim d lim A E k (bindersF p f k a) (bindersF q f' (k + d) a') BndsL
 | 0, _, _, _, _, _, _ => SimE.out
 | f + 1, 0, _, _, _, h, _ => absurd h (by omega)
 | f + 1, f' + 1, k, a, a', hf, ha => by
  rw [bindersF, bindersF]
  refine SimE.then H (sim_punct H k _) fun _ _ k1 h1 _ => SimE.then H (sim_name H k1) fun n n' k2 h2 hn => SimE.then H (sim_punct H k2 _) fun _ _ k3 h3 _ => SimE.then H (sim_expr H k3) fun t t' k4 h4 ht => SimE.then H (sim_punct H k4 _) fun _ _ k5 h5 _ => ?_
  have hs : lim k5 → BndsL (a ++ [(n, t)]) (a' ++ [(n', t')]) := fun hl => (ha (H.down _ _ (by omega) hl)).snoc (hn (H.down _ _ (by omega) hl)) (ht (H.down _ _ h5 hl))
  exact SimE.ite H (fun hl => by rw [H.is hl]) (sim_bindersF H f f' k5 _ _ (by omega) hs) (Sim.ok (Nat.le_refl _) rfl hs)
theorem sim_binders (H : Rel p q d lim A E) (k : Nat) : Sim d lim A E k (p.binders k) (q.binders (k + d)) BndsL := sim_bindersF H _ _ k [] [] (by have := H.le; omega) fun _ => rfl
theorem sim_barsF (H : Rel p q d lim A E) : ∀ (f f' k : Nat) (a a' : List (List UInt8)), f ≤ f' → (lim k → a = a') → Sim d lim A E k (barsF p f k a) (barsF q f' (k + d) a') Eq
 | 0, _, _, _, _, _, _ => SimE.out
 | f + 1, 0, _, _, _, h, _ => absurd h (by omega)
 | f + 1, f' + 1, k, a, a', hf, ha => by
  rw [barsF, barsF, show k + d + 1 = k + 1 + d by omega]
  refine SimE.ite H (fun hl => by rw [H.is hl]) ?_ (Sim.ok (Nat.le_refl _) rfl ha)
  exact (SimE.then H (sim_name H (k + 1)) fun n n' k2 h2 hn => sim_barsF H f f' k2 _ _ (by omega) fun hl => by rw [ha (H.down _ _ (by omega) hl), hn hl]).later (Nat.le_succ k)
theorem sim_namesF (H : Rel p q d lim A E) : ∀ (f f' k : Nat) (a a' : List (List UInt8)), f ≤ f' → (lim k → a = a') → Sim d lim A E k (namesF p f k a) (namesF q f' (k + d) a') Eq
 | 0, _, _, _, _, _, _ => SimE.out
 | f + 1, 0, _, _, _, h, _ => absurd h (by omega)
 | f + 1, f' + 1, k, a, a', hf, ha => by
  rw [namesF, namesF]
  refine SimE.ite H (fun hl => by rw [H.nm hl]) ?_ (Sim.ok (Nat.le_refl _) rfl ha)
  exact SimE.then H (sim_name H k) fun n n' k2 h2 hn => sim_namesF H f f' k2 _ _ (by omega) fun hl => by rw [ha (H.down _ _ h2 hl), hn hl]
theorem sim_signsF (H : Rel p q d lim A E) : ∀ (f f' k : Nat) (a a' : List Int), f ≤ f' → (lim k → a = a') → SimE 1 d lim A E k (signsF p f k a) (signsF q f' (k + d) a') Eq
 | 0, _, _, _, _, _, _ => SimE.out
 | f + 1, 0, _, _, _, h, _ => absurd h (by omega)
 | f + 1, f' + 1, k, a, a', hf, ha => by
  rw [signsF, signsF]
  refine SimE.ite H (fun hl => by rw [H.is hl]) ?_ ?_
  ·rw [show k + d + 1 = k + 1 + d by omega]
   exact ⟨fun x k' e => by cases e; exact ⟨Nat.le_refl _, fun hl => ⟨a', rfl, ha hl⟩⟩, fun _ c b e => by cases e⟩
  ·exact SimE.then H (sim_word H k _) fun n n' k2 h2 hn => sim_signsF H f f' k2 _ _ (by omega) fun hl => by rw [ha (H.down _ _ h2 hl), hn hl]
theorem sim_partsF (H : Rel p q d lim A E) {g g' : Nat → PR Ord} (hg : ∀ k, Sim d lim A E k (g k) (g' (k + d)) Eq) (en : List UInt8) : ∀ (f f' k : Nat) (a a' : List Ord), f ≤ f' → (lim k → a = a') → Sim d lim A E k (partsF p g en f k a) (partsF q g' en f' (k + d) a') Eq
 | 0, _, _, _, _, _, _ => SimE.out
 | f + 1, 0, _, _, _, h, _ => absurd h (by omega)
 | f + 1, f' + 1, k, a, a', hf, ha => by
  rw [partsF, partsF]
  refine SimE.ite H (fun hl => by rw [H.is hl, ha hl]) (Sim.ok (Nat.le_refl _) rfl ha) ?_
  exact SimE.then H (hg k) fun n n' k2 h2 hn => sim_partsF H hg en f f' k2 _ _ (by omega) fun hl => by rw [ha (H.down _ _ h2 hl), hn hl]
theorem sim_orderF (H : Rel p q d lim A E) : ∀ (f o k : Nat), Sim d lim A E k (p.orderF f o k) (q.orderF f o (k + d)) Eq
 | 0, _, _ => SimE.out
 | f + 1, o, k => by
  rw [PE.orderF, PE.orderF]
  have br : ∀ (kd : Int) (en : List UInt8), Sim d lim A E k (if o + 1 = 128 then .err 2 (p.pk k).pos else (partsF p (p.orderF f (o + 1)) en (p.toks.length + 1) (k + 1) []).then fun l k1 => .ok (Ord.node kd 0 l) (k1 + 1)) (if o + 1 = 128 then .err 2 (q.pk (k + d)).pos else (partsF q (q.orderF f (o + 1)) en (q.toks.length + 1) (k + d + 1) []).then fun l k1 => .ok (Ord.node kd 0 l) (k1 + 1)) Eq := fun kd en => by
   refine SimE.ite H (fun _ => Iff.rfl) (SimE.err fun hE => H.pos k (H.all hE k)) ?_
   rw [show k + d + 1 = k + 1 + d by omega]
   refine SimE.later (SimE.then H (sim_partsF H (sim_orderF H f (o + 1)) en _ _ (k + 1) [] [] (by have := H.le; omega) fun _ => rfl) fun l l' k1 h1 hl => ?_) (Nat.le_succ k)
   exact Sim.ok (k := k1) (k1 := k1 + 1) (Nat.le_succ _) (by omega) fun h => by rw [hl (H.down _ _ (Nat.le_succ _) h)]
  refine SimE.ite H (fun hl => by rw [H.is hl]) (br 3 _) (SimE.ite H (fun hl => by rw [H.is hl]) (br 2 _) ?_)
  exact SimE.then H (sim_number H k 1 64) fun n n' k1 h1 hn => Sim.ok (Nat.le_refl _) rfl fun hl => by rw [hn hl]
theorem sim_order (H : Rel p q d lim A E) (k : Nat) : Sim d lim A E k (p.order k) (q.order (k + d)) Eq := sim_orderF H 128 0 k
theorem sim_ordersF (H : Rel p q d lim A E) : ∀ (f f' k : Nat) (a a' : List (List UInt8 × Ord)), f ≤ f' → (lim k → a = a') → Sim d lim A E k (ordersF p f k a) (ordersF q f' (k + d) a') Eq
 | 0, _, _, _, _, _, _ => SimE.out
 | f + 1, 0, _, _, _, h, _ => absurd h (by omega)
 | f + 1, f' + 1, k, a, a', hf, ha => by
  rw [ordersF, ordersF]
  refine SimE.ite H (fun hl => by rw [H.nm hl, ha hl]) ?_ (Sim.ok (Nat.le_refl _) rfl ha)
  exact SimE.then H (sim_name H k) fun n n' k1 h1 hn => SimE.then H (sim_order H k1) fun o o' k2 h2 ho => sim_ordersF H f f' k2 _ _ (by omega) fun hl => by rw [ha (H.down _ _ (by omega) hl), hn (H.down _ _ h2 hl), ho hl]
end
end Lfc
namespace Lfc
section
variable {p q : PE} {d : Nat} {lim : Nat → Prop} {A : Nat → Nat → Prop} {E : Prop}
theorem sim_decl (H : Rel p q d lim A E) (a b k : Nat) : SimE 1 d lim A E k (p.declP (Itm.new a) k) (q.declP (Itm.new b) (k + d)) ItL := by
 unfold PE.declP
 refine SimE.then H (sim_name H k) fun n n' k1 h1 hn => SimE.ite H (fun hl => by rw [H.is hl]) ?_ ?_
 ·rw [show k1 + d + 1 = k1 + 1 + d by omega]
  refine (SimE.then H (sim_expr H (k1 + 1)) fun t t' k2 h2 ht => SimE.ite H (fun hl => by rw [H.is hl]) ?_ ?_).later (Nat.le_succ k1)
  ·refine SimE.then H (sim_punct H k2 _) fun _ _ k3 h3 _ => SimE.then H (sim_expr H k3) fun v v' k4 h4 hv => sim_dot H k4 _ fun hl => ?_
   have e1 := hn (H.down k1 k4 (by omega) hl)
   have e2 := ht (H.down k2 k4 (by omega) hl)
   have e3 := hv (H.down k4 k4 (by omega) hl)
   unfold RawL at e2 e3
   simp [ItL, Itm.strip, Itm.new, e1, e2, e3, H.ops]
  ·refine sim_dot H k2 _ fun hl => ?_
   have e1 := hn (H.down k1 k2 (by omega) hl)
   have e2 := ht (H.down k2 k2 (by omega) hl)
   unfold RawL at e2
   simp [ItL, Itm.strip, Itm.new, e1, e2, H.ops]
 ·refine SimE.then H (sim_punct H k1 _) fun _ _ k3 h3 _ => SimE.then H (sim_expr H k3) fun v v' k4 h4 hv => sim_dot H k4 _ fun hl => ?_
  have e1 := hn (H.down k1 k4 (by omega) hl)
  have e3 := hv (H.down k4 k4 (by omega) hl)
  unfold RawL at e3
  simp [ItL, Itm.strip, Itm.new, e1, e3, H.ops]
theorem sim_op (H : Rel p q d lim A E) (a b : Nat) (fix fix' : Int) (k : Nat) (hx : lim k → fix = fix') : SimE 1 d lim A E k (p.opP (Itm.new a) fix k) (q.opP (Itm.new b) fix' (k + d)) ItL := by
 unfold PE.opP
 refine SimE.then H (sim_number H k 0 99) fun c c' k1 h1 hc => SimE.then H (sim_name H k1) fun n n' k2 h2 hn => ?_
 refine sim_dotF H k2 _ (F := fun k3 => if (added p.ops ⟨n, fix, c⟩).2 ≠ 0 then .err (added p.ops ⟨n, fix, c⟩).2 (p.pk k1).pos else .ok ({ Itm.new a with kind := 3, op := ⟨n, fix, c⟩ }, (added p.ops ⟨n, fix, c⟩).1) k3) (G := fun k3 => if (added q.ops ⟨n', fix', c'⟩).2 ≠ 0 then .err (added q.ops ⟨n', fix', c'⟩).2 (q.pk (k1 + d)).pos else .ok ({ Itm.new b with kind := 3, op := ⟨n', fix', c'⟩ }, (added q.ops ⟨n', fix', c'⟩).1) k3) (fun x k' e => ?_) (fun hE c1 a1 e => ?_)
 ·refine ⟨by split at e <;> cases e; rfl, fun hl => ?_⟩
  obtain rfl := hx (H.down k k2 (by omega) hl)
  obtain rfl := hc (H.down k1 k2 (by omega) hl)
  obtain rfl := hn hl
  rw [H.ops]
  split at e
  ·cases e
  ·rename_i h0
   cases e
   simp only
   rw [if_neg h0]
   exact ⟨_, rfl, by simp [ItL, Itm.strip, Itm.new]⟩
 ·have hl := H.all hE
  obtain rfl := hx (hl k)
  obtain rfl := hc (hl k1)
  obtain rfl := hn (hl k2)
  rw [H.ops]
  simp only at e ⊢
  split at e
  ·rename_i h0
   cases e
   rw [if_pos h0]
   exact ⟨_, rfl, H.pos k1 (hl k1)⟩
  ·cases e
theorem sim_infix (H : Rel p q d lim A E) (a b k : Nat) : SimE 1 d lim A E k (p.infixP (Itm.new a) k) (q.infixP (Itm.new b) (k + d)) ItL := by
 unfold PE.infixP
 exact SimE.then H (sim_word H k _) fun i i' k1 h1 hi => sim_op H a b _ _ k1 fun hl => by rw [hi hl]
theorem sim_named (H : Rel p q d lim A E) (kd : Int) (a b k : Nat) : SimE 1 d lim A E k (p.namedP kd (Itm.new a) k) (q.namedP kd (Itm.new b) (k + d)) ItL := by
 unfold PE.namedP
 refine SimE.then H (sim_name H k) fun n n' k1 h1 hn => sim_dot H k1 _ fun hl => ?_
 simp [ItL, Itm.strip, Itm.new, hn hl, H.ops]
theorem sim_query (H : Rel p q d lim A E) (a b k : Nat) : SimE 1 d lim A E k (p.queryP (Itm.new a) k) (q.queryP (Itm.new b) (k + d)) ItL := by
 unfold PE.queryP
 refine SimE.then H (sim_number H k _ _) fun c c' k1 h1 hc => SimE.then H (sim_expr H k1) fun t t' k2 h2 ht => sim_dot H k2 _ fun hl => ?_
 have e1 := hc (H.down k1 k2 (by omega) hl)
 have e2 := ht (H.down k2 k2 (by omega) hl)
 unfold RawL at e2
 simp [ItL, Itm.strip, Itm.new, e1, e2, H.ops]
theorem sim_block (H : Rel p q d lim A E) (a b k : Nat) : SimE 1 d lim A E k (p.blockP (Itm.new a) k) (q.blockP (Itm.new b) (k + d)) ItL := by
 unfold PE.blockP
 refine SimE.then H (sim_name H k) fun n n' k1 h1 hn => SimE.then H (sim_punct H k1 _) fun _ _ k2 h2 _ => SimE.then H (R := BndsL) (SimE.ite H (fun hl => by rw [H.is hl]) ?_ (Sim.ok (Nat.le_refl _) rfl fun _ => rfl)) fun s s' k3 h3 hs => SimE.then H (sim_word H k3 _) fun _ _ k4 h4 _ => SimE.then H (sim_binders H k4) fun x x' k5 h5 hx => sim_dot H k5 _ fun hl => ?_
 ·rw [show k2 + d + 1 = k2 + 1 + d by omega]
  exact (sim_binders H (k2 + 1)).later (Nat.le_succ k2)
 ·have e1 := hn (H.down k1 k5 (by omega) hl)
  have e2 := hs (H.down k3 k5 (by omega) hl)
  have e3 := hx (H.down k5 k5 (by omega) hl)
  unfold BndsL at e2 e3
  simp [ItL, Itm.strip, Itm.new, e1, e2, e3, H.ops]
theorem sim_worlds (H : Rel p q d lim A E) (a b k : Nat) : SimE 1 d lim A E k (p.worldsP (Itm.new a) k) (q.worldsP (Itm.new b) (k + d)) ItL := by
 unfold PE.worldsP
 refine SimE.then H (sim_punct H k _) fun _ _ k1 h1 _ => SimE.then H (R := Eq) (SimE.ite H (fun hl => by rw [H.nm hl]) ?_ (Sim.ok (Nat.le_refl _) rfl fun _ => rfl)) fun s s' k2 h2 hs => SimE.then H (sim_punct H k2 _) fun _ _ k3 h3 _ => SimE.then H (sim_name H k3) fun n n' k4 h4 hn => SimE.then H (sim_namesF H _ _ k4 _ _ (by have := H.le; omega) fun hl => by rw [hn hl]) fun x x' k5 h5 hx => sim_dot H k5 _ fun hl => ?_
 ·exact SimE.then H (sim_name H k1) fun n n' k2 h2 hn => sim_barsF H _ _ k2 _ _ (by have := H.le; omega) fun hl => by rw [hn hl]
 ·have e2 := hs (H.down k2 k5 (by omega) hl)
  have e3 := hx (H.down k5 k5 (by omega) hl)
  simp [ItL, Itm.strip, Itm.new, e2, e3, H.ops]
theorem sim_mode (H : Rel p q d lim A E) (a b k : Nat) : SimE 1 d lim A E k (p.modeP (Itm.new a) k) (q.modeP (Itm.new b) (k + d)) ItL := by
 unfold PE.modeP
 refine SimE.then H (sim_name H k) fun n n' k1 h1 hn => SimE.map (sim_signsF H _ _ k1 [] [] (by have := H.le; omega) fun _ => rfl) fun s s' k2 h2 hl hs => ?_
 simp [ItL, Itm.strip, Itm.new, hn (H.down k1 _ (by omega) hl), hs, H.ops]
theorem sim_orders (H : Rel p q d lim A E) (kd : Int) (a b k : Nat) : SimE 1 d lim A E k (p.ordersP kd (Itm.new a) k) (q.ordersP kd (Itm.new b) (k + d)) ItL := by
 unfold PE.ordersP
 refine SimE.then H (sim_ordersF H _ _ k [] [] (by have := H.le; omega) fun _ => rfl) fun l l' k1 h1 hn => sim_dot H k1 _ fun hl => ?_
 simp [ItL, Itm.strip, Itm.new, hn hl, H.ops]
theorem sim_reduces (H : Rel p q d lim A E) (a b k : Nat) : SimE 1 d lim A E k (p.reducesP (Itm.new a) k) (q.reducesP (Itm.new b) (k + d)) ItL := by
 unfold PE.reducesP
 refine SimE.then H (sim_name H k) fun n n' k1 h1 hn => SimE.then H (sim_order H k1) fun o o' k2 h2 ho => SimE.then H (R := Eq) (SimE.ite H (fun hl => by rw [H.is hl]) (Sim.ok (Nat.le_succ _) (by omega) fun _ => rfl) ?_) fun r r' k3 h3 hr => SimE.then H (sim_order H k3) fun u u' k4 h4 hu => sim_dot H k4 _ fun hl => ?_
 ·exact SimE.then H (sim_word H k2 _) fun i i' k3 h3 hi => Sim.ok (Nat.le_refl _) rfl fun hl => by rw [hi hl]
 ·have e1 := hn (H.down k1 k4 (by omega) hl)
  have e2 := ho (H.down k2 k4 (by omega) hl)
  have e3 := hr (H.down k3 k4 (by omega) hl)
  have e4 := hu (H.down k4 k4 (by omega) hl)
  simp [ItL, Itm.strip, Itm.new, e1, e2, e3, e4, H.ops]
theorem sim_dir (H : Rel p q d lim A E) (i : Int) (a b k : Nat) : SimE 1 d lim A E k (p.dirP i (Itm.new a) k) (q.dirP i (Itm.new b) (k + d)) ItL := by
 unfold PE.dirP
 split
 ·exact sim_infix H a b k
 ·exact sim_op H a b 1 1 k fun _ => rfl
 ·exact sim_op H a b 2 2 k fun _ => rfl
 ·exact sim_block H a b k
 ·exact sim_worlds H a b k
 ·exact sim_mode H a b k
 ·exact sim_named H 7 a b k
 ·exact sim_named H 8 a b k
 ·exact sim_named H 9 a b k
 ·exact sim_orders H 10 a b k
 ·exact sim_orders H 11 a b k
 ·exact sim_reduces H a b k
 ·exact sim_query H a b k
theorem sim_item (H : Rel p q d lim A E) (n m k : Nat) (hn : n ≠ 512) (hm : m ≠ 512) : SimE 1 d lim A E k (p.itemP n k) (q.itemP m (k + d)) ItL := by
 unfold PE.itemP
 rw [if_neg hn, if_neg hm]
 refine SimE.ite H (fun hl => by rw [H.kind k hl]) ?_ (SimE.ite H (fun hl => by rw [H.nm hl]) (sim_decl H _ _ k) (SimE.unexp H rfl))
 by_cases hl : lim k
 ·rw [H.text k hl]
  refine SimE.ite H (fun _ => Iff.rfl) (SimE.err fun hE => H.pos k hl) ?_
  rw [show k + d + 1 = k + 1 + d by omega]
  exact (sim_dir H _ _ _ (k + 1)).later (Nat.le_succ k)
 ·refine ⟨fun x k' e => ?_, fun hE => absurd (H.all hE k) hl⟩
  have : k + 1 ≤ k' := by
   split at e
   ·cases e
   ·have := ((sim_dir H _ (p.pk k).pos 0 (k + 1)).1 x k' e).1
    omega
  exact ⟨this, fun hl' => absurd (H.down _ _ (by omega) hl') hl⟩
end
end Lfc
namespace Lfc
def Tok.up (D : Nat) (t : Tok) : Tok := ⟨t.kind, t.text, t.pos + D⟩
theorem rel_front (T U : List Tok) (n m : Nat) (l : List Op) : Rel ⟨T, n, l⟩ ⟨T ++ U, m, l⟩ 0 (fun k => k < T.length) (fun _ _ => True) False where
 ops := rfl
 le := by simp
 down := fun k k' h h' => Nat.lt_of_le_of_lt h h'
 kind := fun k h => by simp [PE.pk, List.getD_eq_getElem?_getD, List.getElem?_append_left h, List.getElem?_eq_getElem h]
 text := fun k h => by simp [PE.pk, List.getD_eq_getElem?_getD, List.getElem?_append_left h, List.getElem?_eq_getElem h]
 pos := fun _ _ => trivial
 all := fun h => h.elim
 len := fun h => h.elim
 fin := fun h => h.elim
theorem pk_back (T B : List Tok) (n D : Nat) (l : List Op) (k : Nat) : PE.pk ⟨T ++ B.map (Tok.up D), n + D, l⟩ (k + T.length) = ⟨(PE.pk ⟨B, n, l⟩ k).kind, (PE.pk ⟨B, n, l⟩ k).text, (PE.pk ⟨B, n, l⟩ k).pos + D⟩ := by
 unfold PE.pk
 simp only [List.getD_eq_getElem?_getD]
 rw [List.getElem?_append_right (by omega), Nat.add_sub_cancel, List.getElem?_map]
 cases B[k]? <;> rfl
theorem rel_back (T B : List Tok) (n D : Nat) (l : List Op) : Rel ⟨B, n, l⟩ ⟨T ++ B.map (Tok.up D), n + D, l⟩ T.length (fun _ => True) (fun a b => b = a + D) True where
 ops := rfl
 le := by simp
 down := fun _ _ _ _ => trivial
 kind := fun k _ => by rw [pk_back]
 text := fun k _ => by rw [pk_back]
 pos := fun k _ => by rw [pk_back]
 all := fun _ _ => trivial
 len := fun _ k => by simp; omega
 fin := fun _ => rfl
def dotB (t : Tok) : Bool := decide (t.kind = 2) && decide (t.text = [46])
def DotR {α : Type} (p : PE) (r : PR α) : Prop := ∀ x k', r = .ok x k' → 1 ≤ k' ∧ p.is (k' - 1) 2 [46] = true
theorem DotR.then {α β : Type} {p : PE} {r : PR α} {f : α → Nat → PR β} (h : ∀ x k, DotR p (f x k)) : DotR p (r.then f) := fun y k' e => by
 obtain ⟨x, k1, _, e2⟩ := PR.then_ok e
 exact h x k1 y k' e2
theorem DotR.ite {α : Type} {p : PE} {c : Prop} [Decidable c] {r s : PR α} (h1 : DotR p r) (h2 : DotR p s) : DotR p (if c then r else s) := by split <;> assumption
theorem DotR.err {α : Type} {p : PE} (c : Int) (a : Nat) : DotR p (.err c a : PR α) := fun _ _ e => nomatch e
theorem dot_punct {α : Type} (p : PE) (k : Nat) (x : α) : DotR p ((p.punct k [46]).then fun _ k1 => .ok x k1) := fun y k' e => by
 obtain ⟨_, k1, e1, e2⟩ := PR.then_ok e
 cases e2
 obtain ⟨_, rfl, h⟩ := PE.punct_ok e1
 exact ⟨by omega, by simpa using h⟩
theorem dot_signs (p : PE) : ∀ (f k : Nat) (a : List Int), DotR p (signsF p f k a)
 | 0, _, _ => fun _ _ e => nomatch e
 | f + 1, k, a => by
  rw [signsF]
  split
  ·rename_i h
   intro x k' e
   cases e
   exact ⟨by omega, by simpa using h⟩
  ·exact DotR.then fun i k1 => dot_signs p f k1 _
theorem dot_op (p : PE) (it : Itm) (fix : Int) (k : Nat) : DotR p (p.opP it fix k) := by
 unfold PE.opP
 refine DotR.then fun c k1 => DotR.then fun n k2 => fun y k' e => ?_
 obtain ⟨_, k3, e1, e2⟩ := PR.then_ok e
 obtain ⟨_, rfl, h⟩ := PE.punct_ok e1
 split at e2
 ·cases e2
 ·cases e2
  exact ⟨by omega, by simpa using h⟩
theorem dot_dir (p : PE) (i : Int) (it : Itm) (k : Nat) : DotR p (p.dirP i it k) := by
 unfold PE.dirP
 split
 ·exact DotR.then fun i k1 => dot_op p it _ k1
 ·exact dot_op p it 1 k
 ·exact dot_op p it 2 k
 ·exact DotR.then fun _ _ => DotR.then fun _ _ => DotR.then fun _ _ => DotR.then fun _ _ => DotR.then fun _ _ => dot_punct p _ _
 ·exact DotR.then fun _ _ => DotR.then fun _ _ => DotR.then fun _ _ => DotR.then fun _ _ => DotR.then fun _ _ => dot_punct p _ _
 ·intro x k' e
  obtain ⟨n, k1, _, e2⟩ := PR.then_ok e
  obtain ⟨l, k2, e3, e4⟩ := PR.then_ok e2
  cases e4
  exact dot_signs p _ _ _ _ _ e3
 ·exact DotR.then fun _ _ => dot_punct p _ _
 ·exact DotR.then fun _ _ => dot_punct p _ _
 ·exact DotR.then fun _ _ => dot_punct p _ _
 ·exact DotR.then fun _ _ => dot_punct p _ _
 ·exact DotR.then fun _ _ => dot_punct p _ _
 ·exact DotR.then fun _ _ => DotR.then fun _ _ => DotR.then fun _ _ => DotR.then fun _ _ => dot_punct p _ _
 ·exact DotR.then fun _ _ => DotR.then fun _ _ => dot_punct p _ _
theorem dot_item (p : PE) (n k : Nat) : DotR p (p.itemP n k) := by
 unfold PE.itemP
 refine DotR.ite (DotR.err _ _) (DotR.ite (DotR.ite (DotR.err _ _) (dot_dir p _ _ _)) (DotR.ite ?_ fun _ _ e => (PE.unexp_ok e).elim))
 unfold PE.declP
 refine DotR.then fun _ _ => DotR.ite (DotR.then fun _ _ => DotR.ite (DotR.then fun _ _ => DotR.then fun _ _ => dot_punct p _ _) (dot_punct p _ _)) (DotR.then fun _ _ => DotR.then fun _ _ => dot_punct p _ _)
theorem item_count {toks : List Tok} {fin : Nat} {l : List Op} {n k k1 : Nat} {x : Itm × List Op} (h : PE.itemP ⟨toks, fin, l⟩ n k = .ok x k1) (hk : k ≤ toks.length) : k < k1 ∧ k1 ≤ toks.length ∧ (toks.drop k1).countP dotB + 1 ≤ (toks.drop k).countP dotB := by
 have hf := (fair_item ⟨toks, fin, l⟩ n k).2.2 x k1 h
 have hd := (dot_item _ n k x k1 h).2
 have h1 : k + 1 ≤ k1 := hf.1
 have h2 : k1 ≤ toks.length := hf.2
 refine ⟨by omega, h2, ?_⟩
 have hlt : k1 - 1 < toks.length := by omega
 have e1 : toks.drop (k1 - 1) = toks[k1 - 1] :: toks.drop k1 := by
  rw [List.drop_eq_getElem_cons hlt, show k1 - 1 + 1 = k1 by omega]
 have hb : dotB toks[k1 - 1] = true := by
  have : PE.pk ⟨toks, fin, l⟩ (k1 - 1) = toks[k1 - 1] := by simp [PE.pk, List.getD_eq_getElem?_getD, List.getElem?_eq_getElem hlt]
  unfold PE.is at hd
  rw [this] at hd
  exact hd
 have h3 : (toks.drop (k1 - 1)).countP dotB ≤ (toks.drop k).countP dotB := (List.drop_sublist_drop_left toks (by omega)).countP_le
 rw [e1, List.countP_cons_of_pos hb] at h3
 exact h3
theorem items_front (T U : List Tok) (n m : Nat) : ∀ (f k : Nat) (l : List Op) (acc acc' : List Itm) (x : List Itm × List Op) (k' g : Nat), itemsF T n f k l acc = .ok x k' → k ≤ T.length → acc.map Itm.strip = acc'.map Itm.strip → T.length + U.length < g + k →
  ∃ g' acc2, U.length < g' ∧ x.1.map Itm.strip = acc2.map Itm.strip ∧ itemsF (T ++ U) m g k l acc' = itemsF (T ++ U) m g' T.length x.2 acc2
 | 0, _, _, _, _, _, _, _, h, _, _, _ => nomatch h
 | f + 1, k, l, acc, acc', x, k', g, h, hk, ha, hg => by
  rw [itemsF] at h
  have hlen : acc.length = acc'.length := by have := congrArg List.length ha; simpa using this
  by_cases hlt : k < T.length
  ·rw [if_pos hlt] at h
   obtain ⟨y, k1, e1, e2⟩ := PR.then_ok h
   obtain ⟨c1, c2, _⟩ := item_count e1 hk
   have hne := item_lt e1
   obtain ⟨_, hS⟩ := (sim_item (rel_front T U n m l) acc.length acc'.length k hne (by rw [← hlen]; exact hne)).1 y k1 e1
   obtain ⟨z, e3, hz1, hz2⟩ := hS (show k1 - 1 < T.length by omega)
   obtain ⟨g0, rfl⟩ : ∃ g0, g = g0 + 1 := ⟨g - 1, by omega⟩
   obtain ⟨g', acc2, h1, h2, h3⟩ := items_front T U n m f k1 y.2 (acc ++ [y.1]) (acc' ++ [z.1]) x k' g0 e2 c2 (by rw [List.map_append, List.map_append, ha, List.map_cons, List.map_cons, hz1]) (by omega)
   refine ⟨g', acc2, h1, h2, ?_⟩
   rw [← h3, itemsF, if_pos (by simp; omega)]
   have e3' : PE.itemP ⟨T ++ U, m, l⟩ acc'.length k = .ok z k1 := e3
   rw [e3']
   show itemsF (T ++ U) m g0 k1 z.2 (acc' ++ [z.1]) = _
   rw [hz2]
  ·rw [if_neg hlt] at h
   cases h
   obtain rfl : k = T.length := by omega
   exact ⟨g, acc', by omega, ha, rfl⟩
theorem items_back (T B : List Tok) (n D : Nat) : ∀ (f g k : Nat) (l : List Op) (acc acc' : List Itm), f ≤ g → k ≤ B.length → acc.length ≤ acc'.length → acc'.length + (B.drop k).countP dotB < 512 →
  (∀ x k', itemsF B n f k l acc = .ok x k' → ∃ b c, x.1 = acc ++ b ∧ b.map Itm.strip = c.map Itm.strip ∧ itemsF (T ++ B.map (Tok.up D)) (n + D) g (k + T.length) l acc' = .ok (acc' ++ c, x.2) (k' + T.length)) ∧
  (∀ c a, itemsF B n f k l acc = .err c a → itemsF (T ++ B.map (Tok.up D)) (n + D) g (k + T.length) l acc' = .err c (a + D))
 | 0, _, _, _, _, _, _, _, _, _ => ⟨fun _ _ h => (nomatch h), fun _ _ h => (nomatch h)⟩
 | f + 1, 0, _, _, _, _, h, _, _, _ => absurd h (by omega)
 | f + 1, g + 1, k, l, acc, acc', hf, hk, ha, hc => by
  rw [itemsF, itemsF]
  by_cases hlt : k < B.length
  ·rw [if_pos hlt, if_pos (by simp; omega)]
   have S := sim_item (rel_back T B n D l) acc.length acc'.length k (by omega) (by omega)
   cases hr : PE.itemP ⟨B, n, l⟩ acc.length k with
   | out => exact ⟨fun _ _ h => (nomatch h), fun _ _ h => (nomatch h)⟩
   | err c a =>
    refine ⟨fun _ _ h => (nomatch h), fun c1 a1 h => ?_⟩
    cases h
    obtain ⟨a', e1, rfl⟩ := S.2 trivial c a hr
    rw [e1]
    rfl
   | ok y k1 =>
    obtain ⟨c1, c2, c3⟩ := item_count hr hk
    obtain ⟨z, e3, hz1, hz2⟩ := (S.1 y k1 hr).2 trivial
    rw [e3]
    obtain ⟨i1, i2⟩ := items_back T B n D f g k1 y.2 (acc ++ [y.1]) (acc' ++ [z.1]) (by omega) c2 (by simp; omega) (by simp; omega)
    refine ⟨fun x k' h => ?_, fun c a h => ?_⟩
    ·obtain ⟨b, c, hb, hbc, e4⟩ := i1 x k' h
     refine ⟨y.1 :: b, z.1 :: c, by rw [hb]; simp, by rw [List.map_cons, List.map_cons, hz1, hbc], ?_⟩
     show itemsF _ _ g (k1 + T.length) z.2 (acc' ++ [z.1]) = _
     rw [← hz2, e4]
     simp
    ·have e4 := i2 c a h
     show itemsF _ _ g (k1 + T.length) z.2 (acc' ++ [z.1]) = _
     rw [← hz2, e4]
  ·rw [if_neg hlt, if_neg (by simp; omega)]
   refine ⟨fun x k' h => ?_, fun _ _ h => (nomatch h)⟩
   cases h
   exact ⟨[], [], by simp, rfl, by simp⟩
theorem items_dots (T : List Tok) (n : Nat) : ∀ (f k : Nat) (l : List Op) (acc : List Itm) (x : List Itm × List Op) (k' : Nat), itemsF T n f k l acc = .ok x k' → k ≤ T.length → x.1.length ≤ acc.length + (T.drop k).countP dotB
 | 0, _, _, _, _, _, h, _ => nomatch h
 | f + 1, k, l, acc, x, k', h, hk => by
  rw [itemsF] at h
  split at h
  ·obtain ⟨y, k1, e1, e2⟩ := PR.then_ok h
   obtain ⟨c1, c2, c3⟩ := item_count e1 hk
   have := items_dots T n f k1 _ _ x k' e2 c2
   simp at this
   omega
  ·cases h
   simp
theorem items_split (T B : List Tok) (n D : Nat) (hc : T.countP dotB + B.countP dotB < 512) {a : List Itm} {ops : List Op} {k0 : Nat} (h : itemsP T D [] = .ok (a, ops) k0) :
  (∀ c e, itemsP B n ops = .err c e → itemsP (T ++ B.map (Tok.up D)) (n + D) [] = .err c (e + D)) ∧
  (∀ b more k, itemsP B n ops = .ok (b, more) k → ∃ c k2, itemsP (T ++ B.map (Tok.up D)) (n + D) [] = .ok (c, more) k2 ∧ (a ++ b).map Itm.strip = c.map Itm.strip) := by
 unfold itemsP at h ⊢
 have hd := items_dots T D _ _ _ _ _ _ h (Nat.zero_le _)
 rw [List.drop_zero] at hd
 obtain ⟨g, a', hg, ha, hq⟩ := items_front T (B.map (Tok.up D)) D (n + D) _ 0 [] [] [] _ _ ((T ++ B.map (Tok.up D)).length + 1) h (Nat.zero_le _) rfl (by simp)
 have hl : a.length = a'.length := by have := congrArg List.length ha; simpa using this
 rw [List.length_map] at hg
 have hd : a.length ≤ T.countP dotB := by simpa using hd
 obtain ⟨i1, i2⟩ := items_back T B n D (B.length + 1) g 0 ops [] a' (by omega) (Nat.zero_le _) (by simp) (by rw [List.drop_zero]; omega)
 rw [Nat.zero_add] at i1 i2
 have hq' : itemsF (T ++ B.map (Tok.up D)) (n + D) ((T ++ B.map (Tok.up D)).length + 1) 0 [] [] = itemsF (T ++ B.map (Tok.up D)) (n + D) g T.length ops a' := hq
 rw [hq']
 refine ⟨fun c e he => i2 c e he, fun b more k he => ?_⟩
 obtain ⟨b', c, hb, hbc, e4⟩ := i1 _ _ he
 have hb : b = b' := by simpa using hb
 subst hb
 exact ⟨a' ++ c, _, e4, by rw [List.map_append, List.map_append, hbc, show List.map Itm.strip a = List.map Itm.strip a' from ha]⟩
end Lfc
namespace Go.Proofs.YthajalgkjonaaaaGreatDoor
open Go.RowKit
mutual
def TreeC (w : World) : Lfc.Raw → Value → Value → Value → Value → Prop
 | .node k n p ts, v0, v1, v2, v3 => v0 = .int .i64 k ∧ v1 = S n ∧ n.length ≤ 1000000 ∧ v2 = .int .i64 p ∧ ∃ A c, v3 = .slice A ts.length c ∧ ts.length ≤ c ∧ (ts ≠ [] → ∃ b o, A = some ⟨b, o, none⟩ ∧ b < w.heap.size ∧ TreesO w b ts o)
def TreesO (w : World) (b : Nat) : List Lfc.Raw → Nat → Prop
 | [], _ => True
 | t :: r, o => (∃ v0 v1 v2 v3, w.cell? ⟨b, o, none⟩ = some v0 ∧ w.cell? ⟨b, o + 1, none⟩ = some v1 ∧ w.cell? ⟨b, o + 2, none⟩ = some v2 ∧ w.cell? ⟨b, o + 3, none⟩ = some v3 ∧ TreeC w t v0 v1 v2 v3) ∧ TreesO w b r (o + 4)
end
mutual
theorem TreeC.below {w w' : World} (hb : Below w.heap.size w w') : ∀ (t : Lfc.Raw) (v0 v1 v2 v3 : Value), TreeC w t v0 v1 v2 v3 → TreeC w' t v0 v1 v2 v3
 | .node k n p ts, v0, v1, v2, v3, h => by
  rw [TreeC] at h ⊢
  obtain ⟨h0, h1, hn, h2, A, c, h3, h4, h5⟩ := h
  refine ⟨h0, h1, hn, h2, A, c, h3, h4, fun hne => ?_⟩
  obtain ⟨b, o, hA, hlt, hts⟩ := h5 hne
  exact ⟨b, o, hA, Nat.lt_of_lt_of_le hlt hb.size, TreesO.below hb ts b o hlt hts⟩
theorem TreesO.below {w w' : World} (hb : Below w.heap.size w w') : ∀ (ts : List Lfc.Raw) (b o : Nat), b < w.heap.size → TreesO w b ts o → TreesO w' b ts o
 | [], _, _, _, _ => by rw [TreesO]; trivial
 | t :: r, b, o, hlt, h => by
  rw [TreesO] at h ⊢
  obtain ⟨⟨v0, v1, v2, v3, c0, c1, c2, c3, ht⟩, hr⟩ := h
  exact ⟨⟨v0, v1, v2, v3, (hb.cell (p := ⟨b, _, none⟩) hlt).trans c0, (hb.cell (p := ⟨b, _, none⟩) hlt).trans c1, (hb.cell (p := ⟨b, _, none⟩) hlt).trans c2, (hb.cell (p := ⟨b, _, none⟩) hlt).trans c3, TreeC.below hb t v0 v1 v2 v3 ht⟩, TreesO.below hb r b (o + 4) hlt hr⟩
end
theorem TreesO.at_ {w : World} {b : Nat} : ∀ (ts : List Lfc.Raw) (o i : Nat) (t : Lfc.Raw), TreesO w b ts o → ts[i]? = some t →
  ∃ v0 v1 v2 v3, w.cell? ⟨b, o + i * 4, none⟩ = some v0 ∧ w.cell? ⟨b, o + i * 4 + 1, none⟩ = some v1 ∧ w.cell? ⟨b, o + i * 4 + 2, none⟩ = some v2 ∧ w.cell? ⟨b, o + i * 4 + 3, none⟩ = some v3 ∧ TreeC w t v0 v1 v2 v3 := by
 intro ts
 induction ts with
 | nil => intro o i t _ h; simp at h
 | cons a r ih =>
  intro o i t h hi
  rw [TreesO] at h
  cases i with
  | zero => simp at hi; subst hi; simpa using h.1
  | succ i =>
   have := ih (o + 4) i t h.2 (by simpa using hi)
   rw [show o + (i + 1) * 4 = o + 4 + i * 4 by omega]
   exact this
def TreeV (w : World) (t : Lfc.Raw) (v : Value) : Prop := ∃ v0 v1 v2 v3, v = .agg #[v0, v1, v2, v3] ∧ TreeC w t v0 v1 v2 v3
theorem TreeV.below {w w' : World} {t : Lfc.Raw} {v : Value} (h : TreeV w t v) (hb : Below w.heap.size w w') : TreeV w' t v := by
 obtain ⟨v0, v1, v2, v3, rfl, h⟩ := h
 exact ⟨v0, v1, v2, v3, rfl, TreeC.below hb t _ _ _ _ h⟩
def TreesAt (w : World) (A : Option Addr) (ts : List Lfc.Raw) : Prop := ts ≠ [] → ∃ b o, A = some ⟨b, o, none⟩ ∧ b < w.heap.size ∧ TreesO w b ts o
theorem TreesAt.below {w w' : World} {A : Option Addr} {ts : List Lfc.Raw} (h : TreesAt w A ts) (hb : Below w.heap.size w w') : TreesAt w' A ts := fun hne => by
 obtain ⟨b, o, hA, hlt, h⟩ := h hne
 exact ⟨b, o, hA, Nat.lt_of_lt_of_le hlt hb.size, TreesO.below hb ts b o hlt h⟩
theorem TreeV.open_ {w : World} {k p : Int} {n : List UInt8} {ts : List Lfc.Raw} {v : Value} (h : TreeV w (.node k n p ts) v) : ∃ A c, v = .agg #[.int .i64 k, S n, .int .i64 p, .slice A ts.length c] ∧ ts.length ≤ c ∧ TreesAt w A ts := by
 obtain ⟨v0, v1, v2, v3, rfl, h⟩ := h
 rw [TreeC] at h
 obtain ⟨rfl, rfl, _, rfl, A, c, rfl, hc, h⟩ := h
 exact ⟨A, c, rfl, hc, h⟩
theorem TreeV.name_le {w : World} {k p : Int} {n : List UInt8} {ts : List Lfc.Raw} {v : Value} (h : TreeV w (.node k n p ts) v) : n.length ≤ 1000000 := by
 obtain ⟨v0, v1, v2, v3, rfl, h⟩ := h
 rw [TreeC] at h
 exact h.2.2.1
theorem TreeV.mk {w : World} {k p : Int} {n : List UInt8} {ts : List Lfc.Raw} {A : Option Addr} {c : Nat} (hn : n.length ≤ 1000000) (hc : ts.length ≤ c) (h : TreesAt w A ts) : TreeV w (.node k n p ts) (.agg #[.int .i64 k, S n, .int .i64 p, .slice A ts.length c]) :=
 ⟨_, _, _, _, rfl, by rw [TreeC]; exact ⟨rfl, rfl, hn, rfl, A, c, rfl, hc, h⟩⟩
theorem TreesAt.at_ {w : World} {A : Option Addr} {ts : List Lfc.Raw} (h : TreesAt w A ts) {i : Nat} (hi : i < ts.length) :
  ∃ b o k n p us B c, A = some ⟨b, o, none⟩ ∧ b < w.heap.size ∧ ts[i] = .node k n p us ∧ w.cell? ⟨b, o + i * 4, none⟩ = some (.int .i64 k) ∧ w.cell? ⟨b, o + i * 4 + 1, none⟩ = some (S n) ∧ w.cell? ⟨b, o + i * 4 + 2, none⟩ = some (.int .i64 p) ∧ w.cell? ⟨b, o + i * 4 + 3, none⟩ = some (.slice B us.length c) ∧
   us.length ≤ c ∧ TreesAt w B us ∧ TreeV w ts[i] (.agg #[.int .i64 k, S n, .int .i64 p, .slice B us.length c]) := by
 obtain ⟨b, o, hA, hlt, hts⟩ := h (by intro h0; rw [h0] at hi; simp at hi)
 obtain ⟨v0, v1, v2, v3, c0, c1, c2, c3, ht⟩ := TreesO.at_ ts o i ts[i] hts (List.getElem?_eq_getElem hi)
 cases ht' : ts[i] with
 | node k n p us =>
  rw [ht'] at ht
  have htv : TreeV w (.node k n p us) (.agg #[v0, v1, v2, v3]) := ⟨v0, v1, v2, v3, rfl, ht⟩
  rw [TreeC] at ht
  obtain ⟨rfl, rfl, _, rfl, B, c, rfl, hc, hB⟩ := ht
  exact ⟨b, o, k, n, p, us, B, c, hA, hlt, rfl, c0, c1, c2, c3, hc, hB, htv⟩
end Go.Proofs.YthajalgkjonaaaaGreatDoor
namespace Lfc
def twoText (o m e : List UInt8) : List (List UInt8) → List UInt8
 | [a] => o ++ a ++ e
 | [a, b] => o ++ a ++ m ++ b ++ e
 | _ => []
def bindText (n o e : List UInt8) : List (List UInt8) → List UInt8
 | [a] => [40] ++ o ++ n ++ (e ++ [32]) ++ a ++ [41]
 | [a, b] => [40] ++ o ++ n ++ [58] ++ a ++ (e ++ [32]) ++ b ++ [41]
 | _ => []
def putText (q : List (List UInt8)) (k : Int) (n : List UInt8) (xs : List (List UInt8)) : List UInt8 :=
 if k = 1 then (if n ∈ q then [40] ++ n ++ [41] else n)
 else if k = 2 then [64] ++ n
 else if k = 3 then [95]
 else if k = 4 then [116, 121, 112, 101]
 else if k = 5 then twoText [40] [32] [41] xs
 else if k = 6 then twoText [40] [32, 45, 62, 32] [41] xs
 else if k = 7 then bindText n [123] [125] xs
 else if k = 8 then bindText n [91] [93] xs
 else if k = 9 then twoText [40] [32, 58, 32] [41] xs
 else []
mutual
def Raw.text (q : List (List UInt8)) : Raw → List UInt8
 | .node k n _ ts => putText q k n (Raw.texts q ts)
def Raw.texts (q : List (List UInt8)) : List Raw → List (List UInt8)
 | [] => []
 | a :: r => Raw.text q a :: Raw.texts q r
end
mutual
def Raw.short (s : Nat) : Raw → Prop
 | .node _ n _ ts => n.length ≤ s ∧ Raw.shorts s ts
def Raw.shorts (s : Nat) : List Raw → Prop
 | [] => True
 | a :: r => Raw.short s a ∧ Raw.shorts s r
end
theorem putText_len (q : List (List UInt8)) (k : Int) (n : List UInt8) (xs : List (List UInt8)) (z : Nat) (hx : xs.flatten.length ≤ z) : (putText q k n xs).length ≤ n.length + 20 + z := by
 have h2 : ∀ (o m e : List UInt8), o.length + m.length + e.length ≤ 20 → (twoText o m e xs).length ≤ 20 + z := by
  intro o m e h
  unfold twoText
  split
  ·simp at hx ⊢; omega
  ·simp at hx ⊢; omega
  ·simp
 have h3 : ∀ (o e : List UInt8), o.length + e.length ≤ 15 → (bindText n o e xs).length ≤ n.length + 20 + z := by
  intro o e h
  unfold bindText
  split
  ·simp at hx ⊢; omega
  ·simp at hx ⊢; omega
  ·simp
 unfold putText
 split
 ·split <;> simp <;> omega
 split
 ·simp; omega
 split
 ·simp; omega
 split
 ·simp; omega
 split
 ·have := h2 [40] [32] [41] (by simp); omega
 split
 ·have := h2 [40] [32, 45, 62, 32] [41] (by simp); omega
 split
 ·exact h3 [123] [125] (by simp)
 split
 ·exact h3 [91] [93] (by simp)
 split
 ·have := h2 [40] [32, 58, 32] [41] (by simp); omega
 ·simp
mutual
theorem text_len (q : List (List UInt8)) (s : Nat) : ∀ (t : Raw), t.short s → (t.text q).length ≤ t.size * (s + 20)
 | .node k n p ts, h => by
  rw [Raw.short] at h
  have h1 := texts_flat q s ts h.2
  have h2 := putText_len q k n _ _ h1
  simp only [Raw.text, Raw.size, Nat.add_mul, Nat.one_mul] at h2 ⊢
  omega
theorem texts_flat (q : List (List UInt8)) (s : Nat) : ∀ (ts : List Raw), Raw.shorts s ts → (Raw.texts q ts).flatten.length ≤ Raw.sizes ts * (s + 20)
 | [], _ => by simp [Raw.texts, Raw.sizes]
 | a :: r, h => by
  rw [Raw.shorts] at h
  have h1 := text_len q s a h.1
  have h2 := texts_flat q s r h.2
  simp only [Raw.texts, Raw.sizes, List.flatten_cons, List.length_append, Nat.add_mul] at h2 ⊢
  omega
end
end Lfc
namespace Go.Proofs.YthajalgkjonaaaaGreatDoor
open Go.RowKit
mutual
theorem TreeC.short {w : World} : ∀ (t : Lfc.Raw) (v0 v1 v2 v3 : Value), TreeC w t v0 v1 v2 v3 → t.short 1000000
 | .node k n p ts, v0, v1, v2, v3, h => by
  rw [TreeC] at h
  obtain ⟨_, _, hn, _, A, c, _, _, h5⟩ := h
  rw [Lfc.Raw.short]
  refine ⟨hn, ?_⟩
  cases ts with
  | nil => rw [Lfc.Raw.shorts]; trivial
  | cons a r =>
   obtain ⟨b, o, _, _, hts⟩ := h5 (by simp)
   exact TreesO.short (a :: r) b o hts
theorem TreesO.short {w : World} : ∀ (ts : List Lfc.Raw) (b o : Nat), TreesO w b ts o → Lfc.Raw.shorts 1000000 ts
 | [], _, _, _ => by rw [Lfc.Raw.shorts]; trivial
 | t :: r, b, o, h => by
  rw [TreesO] at h
  obtain ⟨⟨v0, v1, v2, v3, _, _, _, _, ht⟩, hr⟩ := h
  rw [Lfc.Raw.shorts]
  exact ⟨TreeC.short t v0 v1 v2 v3 ht, TreesO.short r b (o + 4) hr⟩
end
theorem TreeV.short {w : World} {t : Lfc.Raw} {v : Value} (h : TreeV w t v) : t.short 1000000 := by
 obtain ⟨v0, v1, v2, v3, _, h⟩ := h
 exact TreeC.short t v0 v1 v2 v3 h
end Go.Proofs.YthajalgkjonaaaaGreatDoor
namespace Lfc
theorem name_at {n : List UInt8} (h : isName n = true) : ¬ (n.headD 0).toNat = 64 := by
 unfold isName at h
 simp only [Bool.and_eq_true, decide_eq_true_eq] at h
 exact h.2
def Stop (s : List UInt8) : Prop := ∀ c r, s = c :: r → nameB c = false
end Lfc
namespace Lfc
def Any (z : List UInt8) : Prop := True
theorem brk_len : ∀ (l : List UInt8) (p : Bool), brk p l ≤ l.length
 | [], _ => by simp [brk]
 | c :: r, p => by
  have := brk_len r (letterB c)
  simp only [brk, List.length_cons]
  split <;> omega
end Lfc
