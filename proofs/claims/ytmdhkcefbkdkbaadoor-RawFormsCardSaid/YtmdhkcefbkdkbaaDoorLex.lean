/- The contract of token.Lex: it returns the tokens of the plain model, in a slice of its own. -/
import Derived.Test.YtmdhkcefbkdkbaaDoorNext
namespace Go.Proofs.YtmdhkcefbkdkbaaDoor
open Go.RowKit

def tokCells (l : List Lfc.Tok) : List Value := l.flatMap fun t => [.int .i64 t.kind, S t.text, .int .i64 (t.pos : Int)]
theorem tokCells_len (l : List Lfc.Tok) : (tokCells l).length = l.length * 3 := by
  induction l with
  | nil => rfl
  | cons a t ih => simp only [tokCells, List.flatMap_cons, List.length_append, List.length_cons, List.length_nil] at *; omega
theorem tokCells_snoc (l : List Lfc.Tok) (t : Lfc.Tok) : tokCells (l ++ [t]) = tokCells l ++ [.int .i64 t.kind, S t.text, .int .i64 (t.pos : Int)] := by simp [tokCells]

theorem only_of_below {a w : World} (h : Below a.heap.size a w) (row : Option Nat) : a.grownBy w row := ⟨h.os, h.tape, h.output, h.size, fun i hi _ => h.block i hi⟩
theorem own_below {w w' : World} {base : Nat} {e : TypeId} {size n : Nat} {v : Value} {xs : List Value} (h : w.ownsRow base e size v n xs) (hb : Below w.heap.size w w') : w'.ownsRow base e size v n xs :=
  h.kept (only_of_below hb none) (by cases hv : v.ownBlock <;> simp)
theorem own_form {w : World} {base : Nat} {e : TypeId} {size n : Nat} {v : Value} {xs : List Value} (h : w.ownsRow base e size v n xs) : ∃ A c, v = .slice A n c := by
  rcases h.2 with ⟨rfl, rfl⟩ | ⟨g, cap, cur, rfl, _⟩
  · exact ⟨_, _, rfl⟩
  · exact ⟨_, _, rfl⟩
theorem own_nil (w : World) (base : Nat) (e : TypeId) (size : Nat) : w.ownsRow base e size (.slice none 0 0) 0 [] := ⟨by simp, .inl ⟨rfl, rfl⟩⟩

theorem addr_add (b j : Nat) : (⟨b, 0, none⟩ : Addr).add j = ⟨b, j, none⟩ := by
  unfold Addr.add; split <;> simp_all
theorem cells_new (W : World) (n : Nat) (hn : n = W.heap.size) (xs : List Value) (e : TypeId) (j : Nat) (u : Value) (h : xs[j]? = some u) : (W.alloc (.cells xs.toArray e)).cell? ((⟨n, 0, none⟩ : Addr).add j) = some u := by
  subst hn
  rw [addr_add, cell_of_row _ _ j xs.toArray e (0, 0) (heap_alloc_new W _)]
  simpa using h
theorem own_block_ge {w : World} {base : Nat} {e : TypeId} {size n : Nat} {v : Value} {xs : List Value} (h : w.ownsRow base e size v n xs) : ∀ k, v.ownBlock = some k → base ≤ k := by
  rcases h.2 with ⟨rfl, rfl⟩ | ⟨g, cap, cur, rfl, hg, _⟩
  · intro k hk; cases hk
  · intro k hk; cases hk; exact hg

/-- A list of tokens, an error and a number are returned. -/
def LexPost (r : List Lfc.Tok × Int × Nat) (w : World) (e : Ending) (w' : World) : Prop :=
  ∃ v, e = .returned (.tuple #[v, .int .i64 r.2.1, .int .i64 (r.2.2 : Int)]) ∧ w'.ownsRow w.heap.size 35 3 v r.1.length (tokCells r.1) ∧ Below w.heap.size w w'

theorem tokInfo : (Tryd.prog.info? 35).map (fun i => (i.zero, i.size, i.bytes)) = some (some (.agg #[.int .i64 0, .string ⟨#[]⟩, .int .i64 0]), 3, 32) := by kernel_rfl

/-- What the round of Lex needs of the text that is left. -/
theorem lexR_at (l : List UInt8) (k : Nat) (acc : List Lfc.Tok) (h : k < l.length) : Lfc.lexR k (l.drop k) acc =
    if (Lfc.nx (l.drop k)).err ≠ 0 then ([], (Lfc.nx (l.drop k)).err, k)
    else if (Lfc.nx (l.drop k)).kind = 0 then Lfc.lexR (k + (Lfc.nx (l.drop k)).len) (l.drop (k + (Lfc.nx (l.drop k)).len)) acc
    else if acc.length = 20000 then ([], 7, k)
    else Lfc.lexR (k + (Lfc.nx (l.drop k)).len) (l.drop (k + (Lfc.nx (l.drop k)).len)) (acc ++ [⟨(Lfc.nx (l.drop k)).kind, (Lfc.nx (l.drop k)).text, k⟩]) := by
  have e1 : l.drop k = l[k] :: l.drop (k + 1) := List.drop_eq_getElem_cons h
  have e2 : ∀ m, l.drop (k + m) = (l[k] :: l.drop (k + 1)).drop m := fun m => by rw [← e1, List.drop_drop]
  rw [e2, e1]
  exact Lfc.lexR_cons _ _ _ _
theorem nx_at (l : List UInt8) (k : Nat) (h : k < l.length) (he : (Lfc.nx (l.drop k)).err = 0) : 1 ≤ (Lfc.nx (l.drop k)).len ∧ k + (Lfc.nx (l.drop k)).len ≤ l.length := by
  have e1 : l.drop k = l[k] :: l.drop (k + 1) := List.drop_eq_getElem_cons h
  rw [e1] at he ⊢
  have := Lfc.nx_len _ _ he
  rw [List.length_drop] at this
  omega

set_option maxRecDepth 100000 in
set_option maxHeartbeats 1000000 in
theorem lex_any (l : List UInt8) (w : World) (hmax : l.length ≤ 9223372036854775807) : Calls Tryd.prog 21 #[S l] w (LexPost (Lfc.lex l) w) := by
  by_cases hlong : 65536 < l.length
  · have h0 : Lfc.lex l = ([], 12, 0) := by rw [Lfc.lex_eq, if_pos hlong]
    rw [h0]
    clear h0
    go_enter Tryd.func21, Tryd.ntmps21
    go_wp2_with fail
    go_ret3
    exact ⟨_, rfl, own_nil _ _ _ _, Below.refl _ _⟩
  · have h0 : Lfc.lex l = Lfc.lexR 0 (l.drop 0) [] := by rw [Lfc.lex_eq, if_neg hlong]; rfl
    rw [h0]
    clear h0
    obtain ⟨i0, hi, hz0, hz1, hz2⟩ := info_parts tokInfo
    generalize hR : Lfc.lexR 0 (l.drop 0) [] = R
    have HR := Lib.hid hR
    clear hR
    have hl : l.length ≤ 65536 := by omega
    go_enter Tryd.func21, Tryd.ntmps21
    go_wp2_with fail
    go_loopw [5, 6] (fun o i wr => ∃ (k : Nat) (acc : List Lfc.Tok), k ≤ l.length ∧ i = .int .i64 k ∧ acc.length ≤ k ∧ wr.ownsRow w.heap.size 35 3 o acc.length (tokCells acc) ∧ Below w.heap.size w wr ∧ Hid (Lfc.lexR k (l.drop k) acc = R)) (fun _ i _ => l.length - (intOf i).toNat)
    case atStart => exact ⟨0, [], by omega, rfl, by simp, own_nil _ _ _ _, Below.refl _ _, HR⟩
    case round =>
      obtain ⟨k, acc, hk, rfl, hak, hown, hbw, hr⟩ := hrel
      obtain ⟨A, c, rfl⟩ := own_form hown
      by_cases hlt : k < l.length
      · have hx := lexR_at l k acc hlt
        have hlen := nx_at l k hlt
        generalize hX : Lfc.nx (l.drop k) = X at *
        have HX := Lib.hid hX
        clear hX
        by_cases he : X.err = 0
        · obtain ⟨hl1, hl2⟩ := hlen he
          rw [if_neg (by simpa using he)] at hx
          have he1 : (X.err == 0) = true := by simp [he]
          have he2 : (X.err != 0) = false := by simp [he]
          have He := Lib.hid he
          clear hlen he
          by_cases hk0 : X.kind = 0
          · rw [if_pos hk0] at hx
            have Hx := Lib.hid hx
            have hk1 : (X.kind != 0) = false := by simp [hk0]
            clear hx hk0
            go_wp2_with fail
            refine (next_any l k _ hl hlt).mono ?_
            rw [HX.out]
            rintro e w1 ⟨rfl, hb1⟩
            obtain ⟨hc, hf⟩ := bcell hb1
            go_wp2_with fail
            go_roundw
            case rel => exact ⟨k + X.len, acc, hl2, by go_num, by omega, (own_below hown hb1).alloc _, (hbw.trans (hb1.mono hbw.size)).alloc (Nat.le_trans hbw.size hb1.size) _, Lib.hid (by rw [← hr.out, Hx.out])⟩
            case measure => simp [intOf]; omega
          · rw [if_neg hk0] at hx
            have hk1 : (X.kind != 0) = true := by simp [hk0]
            have hpos : posOf X.kind k = k := by simp [posOf, hk0]
            have Hpos := Lib.hid hpos
            clear hk0 hpos
            by_cases hm : acc.length = 20000
            · rw [if_pos hm] at hx
              have hm1 : ((acc.length : Int) == 20000) = true := by simp; omega
              have Hx := Lib.hid hx
              clear hx hm
              go_wp2_with fail
              refine (next_any l k _ hl hlt).mono ?_
              rw [HX.out]
              rintro e w1 ⟨rfl, hb1⟩
              obtain ⟨hc, hf⟩ := bcell hb1
              go_wp2_with fail
              go_ret3
              rw [← hr.out, Hx.out]
              exact ⟨_, rfl, own_nil _ _ _ _, (hbw.trans (hb1.mono hbw.size)).alloc (Nat.le_trans hbw.size hb1.size) _⟩
            · rw [if_neg hm] at hx
              have hm1 : ((acc.length : Int) == 20000) = false := by simp; omega
              have Hx := Lib.hid hx
              clear hx hm
              go_wp2_with fail
              refine (next_any l k _ hl hlt).mono ?_
              rw [HX.out]
              rintro e w1 ⟨rfl, hb1⟩
              obtain ⟨hc, hf⟩ := bcell hb1
              have hown1 := ((own_below hown hb1).alloc (Obj.cells #[.int .i64 X.kind, S X.text, .int .i64 (posOf X.kind k)] 35)).alloc (Obj.cells #[.int .i64 X.kind, S X.text, .int .i64 (posOf X.kind k)] 35)
              have hsz := Nat.le_trans hbw.size hb1.size
              go_wp2_with (at_builtin; refine wpList_append_own _ rfl _ _ 28 rfl w.heap.size 35 i0 (.agg #[.int .i64 0, .string ⟨#[]⟩, .int .i64 0]) 3 32 Tryd.underlying28 hi hz0 hz1 hz2 rfl (by decide) _ _ _ rfl hown1 ⟨w1.heap.size + 1, 0, none⟩ 1 1 [.int .i64 X.kind, S X.text, .int .i64 (posOf X.kind k)] rfl rfl ?c1 ?c2 ?c3 ?c4 ?c5 ?_)
              case c1 => exact fun j u h => cells_new _ _ (by simp) _ _ j u h
              case c2 => intro u hu; simp at hu; rcases hu with rfl | rfl | rfl <;> rfl
              case c3 => unfold maxLen; omega
              case c4 => omega
              case c5 => simp; omega
              intro v' w2 hown2 hg2 _
              have hb2 : Below w.heap.size w w2 := (((hbw.trans (hb1.mono hbw.size)).alloc hsz _).alloc (by simp; omega) _).grown hg2 (by simp; omega) (own_block_ge hown1)
              rw [Hpos.out] at hown2
              have hown3 : w2.ownsRow w.heap.size 35 3 v' (acc ++ [(⟨X.kind, X.text, k⟩ : Lfc.Tok)]).length (tokCells (acc ++ [⟨X.kind, X.text, k⟩])) := by
                rw [tokCells_snoc, List.length_append]; exact hown2
              clear hown2 hg2 hown1
              go_wp2_with fail
              go_roundw
              case rel => exact ⟨k + X.len, acc ++ [⟨X.kind, X.text, k⟩], hl2, by go_num, by simp; omega, hown3, hb2, Lib.hid (by rw [← hr.out, Hx.out])⟩
              case measure => simp [intOf]; omega
        · rw [if_pos he] at hx
          have he1 : (X.err == 0) = false := by simp [he]
          have he2 : (X.err != 0) = true := by simp [he]
          have Hx := Lib.hid hx
          clear hx hlen he
          go_wp2_with fail
          refine (next_any l k _ hl hlt).mono ?_
          rw [HX.out]
          rintro e w1 ⟨rfl, hb1⟩
          obtain ⟨hc, hf⟩ := bcell hb1
          go_wp2_with fail
          go_ret3
          rw [← hr.out, Hx.out]
          exact ⟨_, rfl, own_nil _ _ _ _, (hbw.trans (hb1.mono hbw.size)).alloc (Nat.le_trans hbw.size hb1.size) _⟩
      · have hkl : k = l.length := by omega
        have Hk := Lib.hid hkl
        clear hkl
        go_wp2_with fail
        go_ret3
        have e0 : Lfc.lexR k (l.drop k) acc = (acc, 0, l.length) := by rw [Hk.out, List.drop_length, Lfc.lexR_nil]
        rw [← hr.out, e0]
        exact ⟨_, rfl, hown, hbw⟩
end Go.Proofs.YtmdhkcefbkdkbaaDoor
