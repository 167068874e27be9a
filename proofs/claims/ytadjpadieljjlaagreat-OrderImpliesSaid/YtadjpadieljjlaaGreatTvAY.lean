/- Parts of the proof that no input makes the law false: OcAk3, OcAkR. -/
import Derived.Test.YtadjpadieljjlaaGreatTvAM
import Derived.Test.YtadjpadieljjlaaGreatTvAX
set_option linter.unusedVariables false
set_option linter.unusedSimpArgs false
namespace Go.Proofs.YtadjpadieljjlaaGreat
open Go.RowKit Go.Maps
theorem factInfo : (Tryz.prog.info? 70).map (fun i => (i.zero, i.size, i.bytes)) = some (some (.agg #[.int .i64 0, S [], .int .i64 0, .slice none 0 0, .int .i64 0, .int .i64 0, S [], .int .i64 0, .slice none 0 0]), 9, 120) := by kernel_rfl
theorem que_size : (Tryz.prog.info? 29).map (·.size) = some 11 := by kernel_rfl
theorem results_que {fn : Func} {p : Tmp} (h : fn.results = #[.cell p 29]) (tmps : Array Value) (w : World) (g : Nat) (v0 v1 v2 v3 v4 v5 v6 v7 v8 v9 v10 : Value) (hp : tmps.getD p undef = .pointer (some ⟨g, 0, none⟩)) (hg : w.heap[g]? = some (.cells #[v0, v1, v2, v3, v4, v5, v6, v7, v8, v9, v10] 29 (0, 0))) :
  (results fn tmps).run Tryz.prog w = .ok (.agg #[v0, v1, v2, v3, v4, v5, v6, v7, v8, v9, v10]) w :=
 results_cell_row h tmps w g _ _ _ _ hp hg Tryz.underlying29 rfl que_size
theorem cells9q {W : World} {g : Nat} {v0 v1 v2 v3 v4 v5 v6 v7 v8 : Value} {t : TypeId} (h : W.heap[g]? = some (.cells #[v0, v1, v2, v3, v4, v5, v6, v7, v8] t (0, 0))) : W.cell? ⟨g, 0, none⟩ = some v0 ∧ W.cell? ⟨g, 1, none⟩ = some v1 ∧ W.cell? ⟨g, 2, none⟩ = some v2 ∧ W.cell? ⟨g, 3, none⟩ = some v3 ∧ W.cell? ⟨g, 4, none⟩ = some v4 ∧ W.cell? ⟨g, 5, none⟩ = some v5 ∧ W.cell? ⟨g, 6, none⟩ = some v6 ∧ W.cell? ⟨g, 7, none⟩ = some v7 ∧ W.cell? ⟨g, 8, none⟩ = some v8 := ⟨Lib.cell_of_heap h 0, Lib.cell_of_heap h 1, Lib.cell_of_heap h 2, Lib.cell_of_heap h 3, Lib.cell_of_heap h 4, Lib.cell_of_heap h 5, Lib.cell_of_heap h 6, Lib.cell_of_heap h 7, Lib.cell_of_heap h 8⟩
theorem cells11q {W : World} {g : Nat} {v0 v1 v2 v3 v4 v5 v6 v7 v8 v9 v10 : Value} {t : TypeId} (h : W.heap[g]? = some (.cells #[v0, v1, v2, v3, v4, v5, v6, v7, v8, v9, v10] t (0, 0))) : W.cell? ⟨g, 0, none⟩ = some v0 ∧ W.cell? ⟨g, 1, none⟩ = some v1 ∧ W.cell? ⟨g, 2, none⟩ = some v2 ∧ W.cell? ⟨g, 3, none⟩ = some v3 ∧ W.cell? ⟨g, 4, none⟩ = some v4 ∧ W.cell? ⟨g, 5, none⟩ = some v5 ∧ W.cell? ⟨g, 6, none⟩ = some v6 ∧ W.cell? ⟨g, 7, none⟩ = some v7 ∧ W.cell? ⟨g, 8, none⟩ = some v8 ∧ W.cell? ⟨g, 9, none⟩ = some v9 ∧ W.cell? ⟨g, 10, none⟩ = some v10 := ⟨Lib.cell_of_heap h 0, Lib.cell_of_heap h 1, Lib.cell_of_heap h 2, Lib.cell_of_heap h 3, Lib.cell_of_heap h 4, Lib.cell_of_heap h 5, Lib.cell_of_heap h 6, Lib.cell_of_heap h 7, Lib.cell_of_heap h 8, Lib.cell_of_heap h 9, Lib.cell_of_heap h 10⟩
theorem oneCell9 {k p r k' p' : Int} {n n' : List UInt8} {A A' : Option Addr} {l c l' c' : Nat} : ∀ u ∈ [Value.int .i64 k, S n, .int .i64 p, .slice A l c, .int .i64 r, .int .i64 k', S n', .int .i64 p', .slice A' l' c'], u.oneCell' = true := by
 intro u hu
 simp only [List.mem_cons, List.not_mem_nil, or_false] at hu
 rcases hu with rfl | rfl | rfl | rfl | rfl | rfl | rfl | rfl | rfl <;> rfl
section
variable {w wr wx : World} {T Qb g : Nat} {vF : Value} {ts : List Lfc.Raw}
theorem FVar.tape (h : FVar w wr T Qb vF ts g wx) : TapeI T wx := by obtain ⟨f, k, n, p, ls, A, c, k', n', p', rs, A', c', hg, he, hq, h12, hgood, ho1, ht1⟩ := h; exact ht1
theorem FVar.oth (h : FVar w wr T Qb vF ts g wx) : Oth T wr wx := by obtain ⟨f, k, n, p, ls, A, c, k', n', p', rs, A', c', hg, he, hq, h12, hgood, ho1, ht1⟩ := h; exact ho1
theorem FVar.set {w2 s : World} {f : Lfc.Fact} {k p k' p' : Int} {n n' : List UInt8} {ls rs : List Lfc.Raw} {A A' : Option Addr} {c c' : Nat} (h : FVar w wr T Qb vF ts g wx) (hT : T < wr.heap.size) (ho : Oth T wx w2) (ht : TapeI T w2) (hs : Oth g w2 s) (he : f.l = .node k n p ls ∧ f.r = .node k' n' p' rs)
  (hblk : s.heap[g]? = some (.cells #[.int .i64 k, S n, .int .i64 p, .slice A (List.length ls) c, .int .i64 f.rel, .int .i64 k', S n', .int .i64 p', .slice A' (List.length rs) c'] 70 (0, 0)))
  (hl : TreeVP (fun b => (w.heap.size < b ∧ b ≠ Qb ∧ vF.ownBlock ≠ some b) ∧ b ≠ g) w2 f.l (.agg #[.int .i64 k, S n, .int .i64 p, .slice A (List.length ls) c]))
  (hr : TreeVP (fun b => (w.heap.size < b ∧ b ≠ Qb ∧ vF.ownBlock ≠ some b) ∧ b ≠ g) w2 f.r (.agg #[.int .i64 k', S n', .int .i64 p', .slice A' (List.length rs) c']))
  (hg : (f.rel = 1 ∨ f.rel = 2 ∨ f.rel = 3) ∧ f.l.size ≤ 40 ∧ (Lfc.good f.l ∨ f.l ∈ ts) ∧ Lfc.good f.r) : FVar w wr T Qb vF ts g s := by
 obtain ⟨f0, k0, n0, p0, ls0, A0, c0, k0', n0', p0', rs0, A0', c0', hgw, he0, hq, h12, hgood, ho1, ht1⟩ := h
 have hk : ∀ b, ((w.heap.size < b ∧ b ≠ Qb ∧ vF.ownBlock ≠ some b) ∧ b ≠ g) → b < w2.heap.size → s.heap[b]? = w2.heap[b]? := fun b hb hlt => hs.block b hlt (fun e => hb.2 (Option.some.inj e))
 exact ⟨f, k, n, p, ls, A, c, k', n', p', rs, A', c', hgw, he, hblk, ⟨hl.keep hk hs.size (fun _ _ h => h), hr.keep hk hs.size (fun _ _ h => h)⟩, hg, oth_put (ho1.trans ho) hs hgw, ht.oth (by omega) hs⟩
end
theorem fact_at {q : Nat → Prop} {w : World} {base : Nat} {F : Option Addr} {n c : Nat} {xs : List Value} {fs : List Lfc.Fact} {i : Nat} (hl : fs.length = n) (hi : i < n) (h : w.ownsRow base 70 9 (.slice F n c) n xs) (hr : FRow q w fs xs) : ∃ g f, F = some ⟨g, 0, none⟩ ∧ base ≤ g ∧ g < w.heap.size ∧ f ∈ fs ∧ FactO q w g (i * 9) f := by
 rcases h.2 with ⟨_, e0⟩ | ⟨g, cap, cur, hv, hbg, hg, _⟩
 ·omega
 ·injection hv with e1 _ _
  refine ⟨g, fs[i]'(by omega), e1, hbg, lt_of_block hg, List.getElem_mem _, ?_⟩
  have := hr.lie (b := g) (o := 0) (fun j u hj => ?_) i (by omega)
  ·simpa using this
  ·subst e1
   have := h.cells (g := g) rfl j u hj
   rw [ocell_add] at this
   simpa using this
theorem QuP.keep {q q' : Nat → Prop} {w w' : World} {fs : List Lfc.Fact} {F : Option Addr} {o p : Lfc.Ord} {vo vp : Value} {ts us : List Lfc.Raw} {L R : Option Addr} {cl cr : Nat} {ks : List Int} {A0 : Option Addr} (hk : ∀ b, q b → b < w.heap.size → w'.heap[b]? = w.heap[b]?) (hs : w.heap.size ≤ w'.heap.size) (hq : ∀ b, b < w.heap.size → q b → q' b) (h : QuP q w fs F o p vo vp ts us L R cl cr ks A0) : QuP q' w' fs F o p vo vp ts us L R cl cr ks A0 :=
 ⟨h.fl, h.rl, h.ff.keep hk hs hq, h.os, h.ps, h.vo.keep hk hs hq, h.vp.keep hk hs hq, h.n1, h.n, h.eq, h.l, h.r, h.tt.keep hk hs hq, h.uu.keep hk hs hq, h.kl, h.kk.keep hk hs hq, h.zt, h.zu, h.gf⟩
structure As3 (w : World) (T Qb : Nat) (rel : Int) (A0 : Option Addr) (nk c0 : Nat) (ks : List Int) (k : Nat) (ts us : List Lfc.Raw) (AL : Option Addr) (cl : Nat) (AR : Option Addr) (cr : Nat) (fs : List Lfc.Fact) (nf : Nat) (F : Option Addr) (f0 : Nat) (o p : Lfc.Ord) (k1 a1 : Int) (A1 : Option Addr) (l1 c1 : Nat) (k2 a2 : Int) (A2 : Option Addr) (l2 c2 : Nat) (W : World) : Prop where
 blk : W.heap[Qb]? = some (.cells #[.slice F nf f0, .int .i64 rel, .int .i64 k1, .int .i64 a1, .slice A1 l1 c1, .int .i64 k2, .int .i64 a2, .slice A2 l2 c2, .slice AL k cl, .slice AR k cr, .slice A0 nk c0] 29 (0, 0))
 res : W.heap[w.heap.size]? = some (.cells #[.slice none 0 0, .int .i64 0, .int .i64 0, .int .i64 0, .slice none 0 0, .int .i64 0, .int .i64 0, .slice none 0 0, .slice none 0 0, .slice none 0 0, .slice none 0 0] 29 (0, 0))
 qu : QuP (fun b => w.heap.size < b ∧ b ≠ Qb) W fs F o p (.agg #[.int .i64 k1, .int .i64 a1, .slice A1 l1 c1]) (.agg #[.int .i64 k2, .int .i64 a2, .slice A2 l2 c2]) ts us AL AR cl cr ks A0
 tape : TapeI T W
 oth : Oth T w W
 lf : fs.length = nf
 lt : ts.length = k
 lu : us.length = k
 lk : ks.length = nk
 cap : nf ≤ f0 ∧ (F = none → f0 = 0)
section
variable {w wB W W' : World} {T Qb nk c0 k cl cr nf f0 l1 c1 l2 c2 : Nat} {rel k1 a1 k2 a2 : Int} {A0 AL AR F A1 A2 : Option Addr} {ks : List Int} {ts us : List Lfc.Raw} {fs : List Lfc.Fact} {o p : Lfc.Ord}
theorem As3.othT (h : As3 w T Qb rel A0 nk c0 ks k ts us AL cl AR cr fs nf F f0 o p k1 a1 A1 l1 c1 k2 a2 A2 l2 c2 W) (hT : T < w.heap.size) (hQ : w.heap.size < Qb) (ho : Oth T W W') (ht : TapeI T W') : As3 w T Qb rel A0 nk c0 ks k ts us AL cl AR cr fs nf F f0 o p k1 a1 A1 l1 c1 k2 a2 A2 l2 c2 W' :=
 ⟨ho.heap h.blk (by omega), ho.heap h.res (by omega), h.qu.keep (fun b hb hlt => ho.block b hlt (fun e => by have := Option.some.inj e; omega)) ho.size (fun _ _ h => h), ht, h.oth.trans ho, h.lf, h.lt, h.lu, h.lk, h.cap⟩
theorem As3.pset {W1 s : World} {p' : Lfc.Ord} {k3 a3 : Int} {A3 : Option Addr} {l3 c3 : Nat} (h : As3 w T Qb rel A0 nk c0 ks k ts us AL cl AR cr fs nf F f0 o p k1 a1 A1 l1 c1 k2 a2 A2 l2 c2 W) (hT : T < w.heap.size) (hQ : w.heap.size < Qb) (ho : Oth T W W1) (ht : TapeI T W1) (hv : OrdVP (fun b => W.heap.size ≤ b) W1 p' (.agg #[.int .i64 k3, .int .i64 a3, .slice A3 l3 c3])) (hz : p'.size ≤ 20) (hs : Oth Qb W1 s)
  (hblk : s.heap[Qb]? = some (.cells #[.slice F nf f0, .int .i64 rel, .int .i64 k1, .int .i64 a1, .slice A1 l1 c1, .int .i64 k3, .int .i64 a3, .slice A3 l3 c3, .slice AL k cl, .slice AR k cr, .slice A0 nk c0] 29 (0, 0))) : As3 w T Qb rel A0 nk c0 ks k ts us AL cl AR cr fs nf F f0 o p' k1 a1 A1 l1 c1 k3 a3 A3 l3 c3 s := by
 have h1 := h.othT hT hQ ho ht
 have hQW := lt_of_block h.blk
 have hsz := ho.size
 have hw := h.oth.size
 have hk : ∀ b, (w.heap.size < b ∧ b ≠ Qb) → b < W1.heap.size → s.heap[b]? = W1.heap[b]? := fun b hb hlt => hs.block b hlt (fun e => hb.2 (Option.some.inj e))
 have hqu := h1.qu.keep hk hs.size (fun _ _ h => h)
 exact ⟨hblk, (hs.block _ (by omega) (fun e => by have := Option.some.inj e; omega)).trans h1.res, { hqu with ps := hz, vp := hv.keep (fun b hb hlt => hs.block b hlt (fun e => by have := Option.some.inj e; omega)) hs.size (fun b _ hb => ⟨by omega, by omega⟩) }, ht.oth (by omega) hs, oth_put h1.oth hs (by omega), h.lf, h.lt, h.lu, h.lk, h.cap⟩
theorem As2.three {W1 s : World} (h : As2 w wB T Qb rel A0 nk c0 ks k ts us AL cl AR cr fs nf F f0 W) (hT : T < w.heap.size) (hQ : w.heap.size < Qb) (hQB : Qb < wB.heap.size) (ho : Oth T W W1) (ht : TapeI T W1) (hv : OrdVP (fun b => W.heap.size ≤ b) W1 o (.agg #[.int .i64 k1, .int .i64 a1, .slice A1 l1 c1])) (hz : o.size ≤ 20) (hs : Oth Qb W1 s)
  (hblk : s.heap[Qb]? = some (.cells #[.slice F nf f0, .int .i64 rel, .int .i64 k1, .int .i64 a1, .slice A1 l1 c1, .int .i64 k1, .int .i64 a1, .slice A1 l1 c1, .slice AL k cl, .slice AR k cr, .slice A0 nk c0] 29 (0, 0)))
  (hnf : nf ≤ 3) (hk1 : 1 ≤ k ∧ k ≤ 3) (hlt : ts.length = k) (hlu : us.length = k) (hlk : ks.length = nk) (hnk : nk ≤ 5) (hL : AL = none → k = 0 ∧ cl = 0) (hR : AR = none → k = 0 ∧ cr = 0) (hzt : ∀ t, t ∈ ts → t.size ≤ 40) (hzu : ∀ t, t ∈ us → Lfc.good t) :
  As3 w T Qb rel A0 nk c0 ks k ts us AL cl AR cr fs nf F f0 o o k1 a1 A1 l1 c1 k1 a1 A1 l1 c1 s := by
 have hBw : w.heap.size ≤ wB.heap.size := by omega
 have hsz := ho.size
 have hsW := h.size
 have h1 := h.othT hT hQ hBw ho ht
 obtain ⟨xF, hown, hrow⟩ := h1.row
 have hk : ∀ b, (w.heap.size < b ∧ b ≠ Qb) → b < W1.heap.size → s.heap[b]? = W1.heap[b]? := fun b hb hlt => hs.block b hlt (fun e => hb.2 (Option.some.inj e))
 have hF : FactsP (fun b => w.heap.size < b ∧ b ≠ Qb) W1 F fs := factsP_own h.lf hown (fun b hb => ⟨by omega, by omega⟩) (hrow.keep (fun _ _ _ => rfl) (Nat.le_refl _) (fun b _ hb => ⟨hb.1, hb.2.1⟩))
 have hV : OrdVP (fun b => w.heap.size < b ∧ b ≠ Qb) s o (.agg #[.int .i64 k1, .int .i64 a1, .slice A1 l1 c1]) := hv.keep (fun b hb hlt => hs.block b hlt (fun e => by have := Option.some.inj e; omega)) hs.size (fun b _ hb => ⟨by omega, by omega⟩)
 refine ⟨hblk, (hs.block _ (by have := lt_of_block h1.res; omega) (fun e => by have := Option.some.inj e; omega)).trans h1.res, ?_, ht.oth (by omega) hs, oth_put h1.oth hs (by omega), h.lf, hlt, hlu, hlk, ?_⟩
 rotate_left
 ·rcases hown.2 with ⟨e, e0⟩ | ⟨g, cap, cur, e, hbg, hg, hnc, _, _, _⟩
  ·injection e with e1 e2 e3
   exact ⟨by omega, fun _ => e3⟩
  ·injection e with e1 e2 e3
   exact ⟨by omega, fun e4 => by rw [e1] at e4; cases e4⟩
 exact {
  fl := by rw [h.lf]; exact hnf
  rl := fun f hf => (h.gf f hf).1
  ff := hF.keep hk hs.size (fun _ _ h => h)
  os := hz
  ps := hz
  vo := hV
  vp := hV
  n1 := by omega
  n := by omega
  eq := by omega
  l := fun e => by rw [hlt]; exact hL e
  r := fun e => by rw [hlu]; exact hR e
  tt := h1.L.keep (fun b hb hlt => hk b ⟨hb.1, hb.2.1⟩ hlt) hs.size (fun b _ hb => ⟨hb.1, hb.2.1⟩)
  uu := h1.R.keep (fun b hb hlt => hk b ⟨hb.1, hb.2.1⟩ hlt) hs.size (fun b _ hb => ⟨hb.1, hb.2.1⟩)
  kl := by omega
  kk := h1.ks.keep (fun b hb hlt => hk b ⟨hb.1, hb.2.1⟩ hlt) hs.size (fun b _ hb => ⟨hb.1, hb.2.1⟩)
  zt := hzt
  zu := hzu
  gf := fun f hf => (h.gf f hf).2 }
theorem As3.ans {s : World} (h : As3 w T Qb rel A0 nk c0 ks k ts us AL cl AR cr fs nf F f0 o p k1 a1 A1 l1 c1 k2 a2 A2 l2 c2 W) (hT : T < w.heap.size) (hrel : rel = 1 ∨ rel = 2 ∨ rel = 3) (hs : Oth w.heap.size W s) : AskAns w T (.returned (.agg #[.slice F nf f0, .int .i64 rel, .int .i64 k1, .int .i64 a1, .slice A1 l1 c1, .int .i64 k2, .int .i64 a2, .slice A2 l2 c2, .slice AL k cl, .slice AR k cr, .slice A0 nk c0])) s := by
 have h2 := h.qu.keep (q' := fun b => w.heap.size ≤ b) (fun b hb hlt => hs.block b hlt (fun e => by have := Option.some.inj e; omega)) hs.size (fun b _ hb => Nat.le_of_lt hb.1)
 refine ⟨⟨fs, F, f0, rel, o, p, k1, a1, k2, a2, A1, A2, l1, c1, l2, c2, ts, us, AL, AR, cl, cr, ks, A0, c0, ?_, hrel, ⟨by rw [h.lf]; exact h.cap.1, h.cap.2⟩, h2⟩, h.tape.oth hT hs, oth_put h.oth hs (Nat.le_refl _)⟩
 rw [h.lf, h.lt, h.lu, h.lk]
end
end Go.Proofs.YtadjpadieljjlaaGreat
namespace Go.Proofs.YtadjpadieljjlaaGreat
open Go.RowKit Go.Maps
abbrev oI3 : Obj := .cells #[.int .i64 1, .int .i64 2, .int .i64 3] 3
abbrev oZF : Obj := .cells #[.int .i64 0, S [], .int .i64 0, .slice none 0 0, .int .i64 0, .int .i64 0, S [], .int .i64 0, .slice none 0 0] 70
theorem Oth.al {T : Nat} {w W : World} (h : Oth T w W) (o : Obj) : Oth T w (W.alloc o) := h.trans (Oth.of_below ((Below.refl W.heap.size W).alloc (Nat.le_refl _) o))
theorem TapeI.al {T : Nat} {W : World} (h : TapeI T W) (o : Obj) : TapeI T (W.alloc o) := h.below ((Below.refl W.heap.size W).alloc (Nat.le_refl _) o)
theorem al_heap {W : World} {g : Nat} {x : Obj} (h : W.heap[g]? = some x) (o : Obj) : (W.alloc o).heap[g]? = some x := (Lib.alloc_old W o _ (lt_of_block h)).trans h
theorem v9a {q : Nat → Prop} {w W : World} {t : Lfc.Raw} {v : Value} (h : TreeVP q w t v) (hb : Below w.heap.size w W) : TreeVP q W t v := h.keep (fun b _ hlt => hb.block b hlt) hb.size (fun _ _ h => h)
theorem v9b {q : Nat → Prop} {w W : World} {g : Nat} {t : Lfc.Raw} {v : Value} (h : TreeVP q w t v) (hb : Below w.heap.size w W) (hg : w.heap.size ≤ g) : TreeVP (fun b => q b ∧ b ≠ g) W t v := h.keep (fun b _ hlt => hb.block b hlt) hb.size (fun b hlt hb => ⟨hb, by omega⟩)
theorem apT {ops : Array Oper} {o : Oper} {a : Act} {w : World} {K : Act → World → Prop} {Q : Exit → Act → World → Prop} {E : Prop} {s x : Operand} {base n g : Nat} {v : Value} {xs : List Value} (news : List Value)
  (hown : w.ownsRow base 51 4 v n xs) (hnews : ∀ j u, news[j]? = some u → w.cell? ((⟨g, 0, none⟩ : Addr).add j) = some u) (h1 : ∀ u ∈ news, u.oneCell' = true) (h63 : n + 1 ≤ maxLen) (hbytes : (n + 1) * 56 ≤ 140737488355328) (hbase : base ≤ w.heap.size)
  (h : ∀ A c w', w'.ownsRow base 51 4 (.slice A (n + 1) c) (n + 1) (xs ++ news) → w.grownBy w' v.ownBlock → ((Value.slice A (n + 1) c).ownBlock = v.ownBlock ∨ (Value.slice A (n + 1) c).ownBlock = some w.heap.size) → K (a.put o.dst (.slice A (n + 1) c)) w')
  (hgd : o.guard = none := by rfl) (ho : o.op = .call { callee := .builtin .append, args := #[s, x], argTypes := #[27, 27] } := by rfl) (hs : a.eval s = v := by rfl) (hx : a.eval x = .slice (some ⟨g, 0, none⟩) 1 1 := by rfl) (hl : news.length = 1 * 4 := by rfl) :
  if Region.wanted o (yielded ops a.tmps) = true then Oper.wp Tryz.prog o a w K Q else E := by
 obtain ⟨i0, hi, hz0, hz1, hz2⟩ := info_parts termInfo
 refine step_append_own_at w hgd s x 27 ho base 51 i0 (.agg #[.int .i64 0, S [], .int .i64 0, .slice none 0 0]) 4 56 Tryz.underlying27 hi hz0 hz1 hz2 rfl (by decide) v n xs hs hown ⟨g, 0, none⟩ 1 1 news hx hl hnews h1 h63 hbytes hbase ?_
 intro v' w' h2 h3 h4
 obtain ⟨A, c, rfl⟩ := oform h2
 exact h A c w' h2 h3 h4
end Go.Proofs.YtadjpadieljjlaaGreat
