/- Parts of the proof that no input makes the law false: RawFmt,RawFmt2,RawFmt3,RawFmt4,Oth,PaTape,RawTape,TreeP,OpMem. -/
import Derived.StillTailTactics
import Derived.Laws.AppendOwn
import Derived.Laws.OwnMore
import Derived.Test.YthajalgkjonaaaaGreatDoorQxAA
import Derived.Test.YthajalgkjonaaaaGreatDoorQxAB
import Derived.Test.YthajalgkjonaaaaGreatDoorQxAE
import Derived.Test.YthajalgkjonaaaaGreatDoorQxAF
set_option linter.unusedVariables false
set_option linter.unusedSimpArgs false
namespace Go.Proofs.YthajalgkjonaaaaGreatDoor
open Go.RowKit
def P(b:Nat):Value:=.pointer (some ⟨b,0,none⟩)
theorem enters_two:∀args w,(callFunc 160 args).run Tryz.prog w=.ok (.enter 160 args) w:=enters_of Tryz.func160 (by kernel_rfl) rfl
theorem enters_binder:∀args w,(callFunc 161 args).run Tryz.prog w=.ok (.enter 161 args) w:=enters_of Tryz.func161 (by kernel_rfl) rfl
theorem enters_write:∀args w,(callFunc 162 args).run Tryz.prog w=.ok (.enter 162 args) w:=enters_of Tryz.func162 (by kernel_rfl) rfl
structure EnvF(w0:World)(b Bq:Nat)(w:World):Prop where
 at_:b=w0.heap.size
 bel:Below w0.heap.size w0 w
 wr:w.heap[b+1]?=some (.cells #[.func (.func 162) #[] #[.pointer (some ⟨Bq,0,none⟩),.pointer (some ⟨b,0,none⟩),.pointer (some ⟨b+2,0,none⟩),.pointer (some ⟨b+3,0,none⟩)]] 114 (0,0))
 tw:w.heap[b+2]?=some (.cells #[.func (.func 160) #[] #[.pointer (some ⟨b,0,none⟩),.pointer (some ⟨b+1,0,none⟩)]] 192 (0,0))
 bi:w.heap[b+3]?=some (.cells #[.func (.func 161) #[] #[.pointer (some ⟨b,0,none⟩),.pointer (some ⟨b+2,0,none⟩)]] 193 (0,0))
theorem EnvF.next{w0 w w':World}{b Bq:Nat}(h:EnvF w0 b Bq w)(hb:Below b w w')(hk:Kept b w w'):EnvF w0 b Bq w' :=
 ⟨h.at_,h.bel.trans (by rw[←h.at_];exact hb),hk.cells h.wr (by omega) (by decide),hk.cells h.tw (by omega) (by decide),hk.cells h.bi (by omega) (by decide)⟩
structure StF(w0:World)(b Bq:Nat)(w:World)(R:Nat)(box:Array Value)(acc:List UInt8)(w':World):Prop where
 bld:Bld b b acc w'
 env:EnvF w0 b Bq w'
 box:w'.heap[R]?=some (.cells box 46 (0,0))
 bel:Below b w w'
 kept:Kept b w w'
 ne:R≠b
 le:b≤w'.heap.size
theorem StF.next{w0 w w1 w2:World}{b Bq R:Nat}{box:Array Value}{acc acc':List UInt8}(h:StF w0 b Bq w R box acc w1)(hd:Bld b b acc' w2)(hb:Below b w1 w2)(hk:Kept b w1 w2):StF w0 b Bq w R box acc' w2 :=
 ⟨hd,h.env.next hb hk,hk.cells h.box h.ne (by decide),h.bel.trans hb,h.kept.trans hk,h.ne,Nat.le_trans h.le hb.size⟩
theorem Bld.lt{B b:Nat}{l:List UInt8}{w:World}(h:Bld B b l w):b<w.heap.size:=by
 rcases h with⟨_,v,hv,_⟩ | ⟨_,v,hv,_⟩
 ·exact lt_of_block hv
 ·exact lt_of_block hv
theorem Bld.alloc{B b:Nat}{l:List UInt8}{w:World}(h:Bld B b l w)(o:Obj):Bld B b l (w.alloc o):=Lib.IsBuilderF.alloc h o
theorem Bld.drew{B b:Nat}{l:List UInt8}{w:World}(h:Bld B b l w):Bld B b l w.drew:=h
theorem StF.start{w0 w:World}{b Bq:Nat}{acc:List UInt8}(box:Array Value)(hd:Bld b b acc w)(he:EnvF w0 b Bq w):StF w0 b Bq w w.heap.size box acc (w.alloc (.cells box 46)):=by
 have hlt:=hd.lt
 have hb:Below b w (w.alloc (.cells box 46)):=(Below.refl _ _).alloc (by omega) _
 have hk:Kept b w (w.alloc (.cells box 46)):=(Lib.OthersKept.refl _ _ w).alloc _
 exact⟨hd.alloc _,he.next hb hk,heap_alloc_new w _,hb,hk,by omega,by simp;omega⟩
theorem StF.drew{w0 w w1:World}{b Bq R:Nat}{box:Array Value}{acc:List UInt8}(h:StF w0 b Bq w R box acc w1):StF w0 b Bq w R box acc w1.drew :=
 h.next h.bld.drew (Below.refl _ _).drew (Lib.OthersKept.refl _ _ w1).drew
def WriteUpto(w0:World)(b Bq:Nat)(q:List (List UInt8))(m:Nat):Prop:=∀(t:Lfc.Raw)(v:Value)(w:World)(acc:List UInt8),t.size≤m→t.form=true→TreeV w0 t v→EnvF w0 b Bq w→Bld b b acc w→acc.length+(t.text q).length≤140737488355328 →
  Calls Tryz.prog 162 #[v,.pointer (some ⟨Bq,0,none⟩),.pointer (some ⟨b,0,none⟩),.pointer (some ⟨b+2,0,none⟩),.pointer (some ⟨b+3,0,none⟩)] w fun e w'=>e=.returned (.tuple #[])∧Bld b b (acc++t.text q) w'∧Below b w w'∧Kept b w w'
set_option maxRecDepth 100000 in
set_option maxHeartbeats 2000000 in
theorem two_any(w0:World)(b Bq:Nat)(q:List (List UInt8))(m:Nat)(ih:WriteUpto w0 b Bq q m)(k p:Int)(n:List UInt8)(ts:List Lfc.Raw)(v:Value)(w:World)(acc o mid en:List UInt8)
  (hsz:Lfc.Raw.sizes ts≤m) (hf:Lfc.Raw.forms ts=true) (hl:ts.length=1∨ts.length=2) (hv:TreeV w0 (.node k n p ts) v) (henv:EnvF w0 b Bq w) (hbld:Bld b b acc w) (hbd:acc.length+(Lfc.twoText o mid en (Lfc.Raw.texts q ts)).length≤140737488355328) :
  Calls Tryz.prog 160 #[v,S o,S mid,S en,.pointer (some ⟨b,0,none⟩),.pointer (some ⟨b+1,0,none⟩)] w fun e w'=>e=.returned (.tuple #[])∧Bld b b (acc++Lfc.twoText o mid en (Lfc.Raw.texts q ts)) w'∧Below b w w'∧Kept b w w':=by
 have he:=enters_write
 obtain⟨A,c,rfl,hc,hA⟩:=hv.open_
 have IH:=Lib.hid ih
 have s0:=StF.start #[.int .i64 k,S n,.int .i64 p,.slice A ts.length c] hbld henv
 clear ih hv henv hbld
 match ts,hl with
 |[a],_ =>
  simp only[Lfc.Raw.texts,Lfc.twoText,Lfc.Raw.sizes,Lfc.Raw.forms,Bool.and_true,List.length_append,List.length_singleton,Nat.add_zero] at *
  obtain⟨B,O,k1,n1,p1,xs,B1,c1,rfl,hb,ht,d0,d1,d2,d3,hcu,hB,hT⟩:=hA.at_ (i:=0) (by simp)
  simp only[List.getElem_cons_zero,Nat.zero_mul,Nat.add_zero] at hT ht d0 d1 d2 d3
  clear ht hB hA
  have H0:=Lib.hid s0
  clear s0
  go_enter Tryz.func160,Tryz.ntmps160
  go_wp2_with fail
  refine(writeString_any b b acc o _ H0.out.bld (by omega) H0.out.le).mono ?_
  rintro e w1⟨rfl,h1,hb1,hk1⟩
  have H1:=Lib.hid (H0.out.next h1 hb1 hk1)
  clear h1 hb1 hk1
  have hRf:=Lib.cell_of_heap H1.out.box 3
  have hWf:=cell_of_one H1.out.env.wr
  have f0:=(H1.out.env.bel.cell (p:=⟨B,_,none⟩) hb).trans d0
  have f1:=(H1.out.env.bel.cell (p:=⟨B,_,none⟩) hb).trans d1
  have f2:=(H1.out.env.bel.cell (p:=⟨B,_,none⟩) hb).trans d2
  have f3:=(H1.out.env.bel.cell (p:=⟨B,_,none⟩) hb).trans d3
  go_wp2_with fail
  have hzw1:IntKind.i64.wrap 0=0:=by decide
  refine wp_region_still_tail 9 (by kernel_rfl) (by kernel_rfl) ?_
  simp only[List.take_succ_cons,List.take_zero,List.drop_succ_cons,List.drop_zero]
  change wpStill Tryz.prog _ w1.drew _ _ _
  repeat still_step
  try refine wpStill_nil ?_
  change wpList _ _ _ _ _ w1.drew
  go_wp2_with fail
  refine(IH.out a _ w1.drew (acc++o) hsz hf hT H1.out.drew.env H1.out.drew.bld (by simp only[List.length_append];omega)).mono ?_
  rintro e w2⟨rfl,h2,hb2,hk2⟩
  have H2:=Lib.hid (H1.out.drew.next h2 hb2 hk2)
  clear h2 hb2 hk2
  go_wp2_with fail
  refine(writeString_any b b _ en _ H2.out.bld (by simp only[List.length_append];omega) H2.out.le).mono ?_
  rintro e w3⟨rfl,h3,hb3,hk3⟩
  have H3:=Lib.hid (H2.out.next h3 hb3 hk3)
  clear h3 hb3 hk3
  go_wp2_with fail
  go_end0
  exact⟨rfl,by simpa[List.append_assoc] using H3.out.bld,H3.out.bel,H3.out.kept⟩
 |[a,a'],_ =>
  simp only[Lfc.Raw.texts,Lfc.twoText,Lfc.Raw.sizes,Lfc.Raw.forms,Bool.and_true,Bool.and_eq_true,List.length_append,List.length_cons,List.length_nil,Nat.zero_add,Nat.reduceAdd,Nat.add_zero] at *
  obtain⟨hfa,hfa'⟩:=hf
  obtain⟨B,O,k1,n1,p1,xs,B1,c1,rfl,hb,ht,d0,d1,d2,d3,hcu,hB,hT⟩:=hA.at_ (i:=0) (by simp)
  obtain⟨B',O',k2,n2,p2,ys,B2,c2,hBO,hb',ht',e0,e1,e2,e3,hcu',hB',hT'⟩:=hA.at_ (i:=1) (by simp)
  simp only[List.getElem_cons_zero,List.getElem_cons_succ,Nat.zero_mul,Nat.one_mul,Nat.add_zero] at hT ht d0 d1 d2 d3 hT' ht' e0 e1 e2 e3
  cases hBO
  clear ht hB hA ht' hB' hb'
  have H0:=Lib.hid s0
  clear s0
  go_enter Tryz.func160,Tryz.ntmps160
  go_wp2_with fail
  refine(writeString_any b b acc o _ H0.out.bld (by omega) H0.out.le).mono ?_
  rintro e w1⟨rfl,h1,hb1,hk1⟩
  have H1:=Lib.hid (H0.out.next h1 hb1 hk1)
  clear h1 hb1 hk1
  have hRf:=Lib.cell_of_heap H1.out.box 3
  have hWf:=cell_of_one H1.out.env.wr
  have f0:=(H1.out.env.bel.cell (p:=⟨B,_,none⟩) hb).trans d0
  have f1:=(H1.out.env.bel.cell (p:=⟨B,_,none⟩) hb).trans d1
  have f2:=(H1.out.env.bel.cell (p:=⟨B,_,none⟩) hb).trans d2
  have f3:=(H1.out.env.bel.cell (p:=⟨B,_,none⟩) hb).trans d3
  go_wp2_with fail
  have hzw1:IntKind.i64.wrap 0=0:=by decide
  refine wp_region_still_tail 5 (by kernel_rfl) (by kernel_rfl) ?_
  simp only[List.take_succ_cons,List.take_zero,List.drop_succ_cons,List.drop_zero]
  change wpStill Tryz.prog _ w1.drew _ _ _
  repeat still_step
  try refine wpStill_nil ?_
  change wpList _ _ _ _ _ w1.drew
  go_wp2_with fail
  refine(IH.out a _ w1.drew (acc++o) (by omega) hfa hT H1.out.drew.env H1.out.drew.bld (by simp only[List.length_append];omega)).mono ?_
  rintro e w2⟨rfl,h2,hb2,hk2⟩
  have H2:=Lib.hid (H1.out.drew.next h2 hb2 hk2)
  clear h2 hb2 hk2
  go_wp2_with fail
  refine(writeString_any b b _ mid _ H2.out.bld (by simp only[List.length_append];omega) H2.out.le).mono ?_
  rintro e w3⟨rfl,h3,hb3,hk3⟩
  have H3:=Lib.hid (H2.out.next h3 hb3 hk3)
  clear h3 hb3 hk3
  have hRg:=Lib.cell_of_heap H3.out.box 3
  have hWg:=cell_of_one H3.out.env.wr
  have g0:=(H3.out.env.bel.cell (p:=⟨B,_,none⟩) hb).trans e0
  have g1:=(H3.out.env.bel.cell (p:=⟨B,_,none⟩) hb).trans e1
  have g2:=(H3.out.env.bel.cell (p:=⟨B,_,none⟩) hb).trans e2
  have g3:=(H3.out.env.bel.cell (p:=⟨B,_,none⟩) hb).trans e3
  go_wp2_with fail
  have hzw3:IntKind.i64.wrap 1=1:=by decide
  refine wp_region_still_tail 9 (by kernel_rfl) (by kernel_rfl) ?_
  simp only[List.take_succ_cons,List.take_zero,List.drop_succ_cons,List.drop_zero]
  change wpStill Tryz.prog _ w3.drew _ _ _
  repeat still_step
  try refine wpStill_nil ?_
  change wpList _ _ _ _ _ w3.drew
  go_wp2_with fail
  refine(IH.out a' _ w3.drew _ (by omega) hfa' hT' H3.out.drew.env H3.out.drew.bld (by simp only[List.length_append];omega)).mono ?_
  rintro e w4⟨rfl,h4,hb4,hk4⟩
  have H4:=Lib.hid (H3.out.drew.next h4 hb4 hk4)
  clear h4 hb4 hk4
  go_wp2_with fail
  refine(writeString_any b b _ en _ H4.out.bld (by simp only[List.length_append];omega) H4.out.le).mono ?_
  rintro e w5⟨rfl,h5,hb5,hk5⟩
  have H5:=Lib.hid (H4.out.next h5 hb5 hk5)
  clear h5 hb5 hk5
  go_wp2_with fail
  go_end0
  exact⟨rfl,by simpa[List.append_assoc] using H5.out.bld,H5.out.bel,H5.out.kept⟩
 |[],h=>simp at h
 |_ :: _ :: _ :: _,h=>simp at h
end Go.Proofs.YthajalgkjonaaaaGreatDoor
namespace Go.Proofs.YthajalgkjonaaaaGreatDoor
open Go.RowKit
theorem bcat(a b:List UInt8):(⟨a.toArray⟩ ++ ⟨b.toArray⟩:ByteArray)=⟨(a++b).toArray⟩:=by
 apply ByteArray.ext;simp
set_option maxRecDepth 100000 in
set_option maxHeartbeats 2000000 in
theorem binder_any(w0:World)(b Bq:Nat)(q:List (List UInt8))(m:Nat)(ih:WriteUpto w0 b Bq q m)(k p:Int)(n:List UInt8)(ts:List Lfc.Raw)(v:Value)(w:World)(acc o en:List UInt8)
  (hsz:Lfc.Raw.sizes ts≤m) (hf:Lfc.Raw.forms ts=true) (hl:ts.length=1∨ts.length=2) (hv:TreeV w0 (.node k n p ts) v) (henv:EnvF w0 b Bq w) (hbld:Bld b b acc w) (hbd:acc.length+(Lfc.bindText n o en (Lfc.Raw.texts q ts)).length≤140737488355328) :
  Calls Tryz.prog 161 #[v,S o,S en,.pointer (some ⟨b,0,none⟩),.pointer (some ⟨b+2,0,none⟩)] w fun e w'=>e=.returned (.tuple #[])∧Bld b b (acc++Lfc.bindText n o en (Lfc.Raw.texts q ts)) w'∧Below b w w'∧Kept b w w':=by
 have he:=enters_two
 have HT:=Lib.hid (two_any w0 b Bq q m ih k p n ts v)
 have HV:=Lib.hid hv
 obtain⟨A,c,rfl,hc,hA⟩:=hv.open_
 have s0:=StF.start #[.int .i64 k,S n,.int .i64 p,.slice A ts.length c] hbld henv
 clear ih hv henv hbld hA
 match ts,hl with
 |[a],hl =>
  simp only[Lfc.Raw.texts,Lfc.twoText,Lfc.bindText,List.length_append,List.length_singleton] at *
  have H0:=Lib.hid s0
  clear s0
  have hcat1:(⟨#[40]⟩:ByteArray) ++ ⟨o.toArray⟩=⟨([40]++o).toArray⟩:=bcat [40] o
  have hcat2:(⟨en.toArray⟩:ByteArray) ++ ⟨#[32]⟩=⟨(en++[32]).toArray⟩:=bcat en [32]
  go_enter Tryz.func161,Tryz.ntmps161
  go_wp2_with fail
  refine(writeString_any b b acc _ _ H0.out.bld (by simp only[List.length_append,List.length_cons,List.length_nil];omega) H0.out.le).mono ?_
  rintro e w1⟨rfl,h1,hb1,hk1⟩
  have H1:=Lib.hid (H0.out.next h1 hb1 hk1)
  clear h1 hb1 hk1
  have hR3:=Lib.cell_of_heap H1.out.box 3
  go_wp2_with fail
  refine(writeString_any b b _ _ _ H1.out.bld (by simp only[List.length_append,List.length_cons,List.length_nil];omega) H1.out.le).mono ?_
  rintro e w2⟨rfl,h2,hb2,hk2⟩
  have H2:=Lib.hid (H1.out.next h2 hb2 hk2)
  clear h2 hb2 hk2 hR3
  have hR0:=Lib.cell_of_heap H2.out.box 0
  have hR1:=Lib.cell_of_heap H2.out.box 1
  have hR2:=Lib.cell_of_heap H2.out.box 2
  have hR3:=Lib.cell_of_heap H2.out.box 3
  have hW:=cell_of_one H2.out.env.tw
  go_wp2_with fail
  refine(HT.out w2 _ [] [] [41] hsz hf (by simp) HV.out H2.out.env H2.out.bld (by simp only[List.length_append,List.length_cons,List.length_nil];omega)).mono ?_
  rintro e w3⟨rfl,h3,hb3,hk3⟩
  have H3:=Lib.hid (H2.out.next h3 hb3 hk3)
  clear h3 hb3 hk3
  go_wp2_with fail
  refine bodyPost_ret (results_none rfl _ _ _) rfl ?_
  exact⟨rfl,by simpa[List.append_assoc] using H3.out.bld,H3.out.bel,H3.out.kept⟩
 |[a,a'],hl =>
  simp only[Lfc.Raw.texts,Lfc.twoText,Lfc.bindText,List.length_append,List.length_cons,List.length_nil,Nat.zero_add,Nat.reduceAdd] at *
  have H0:=Lib.hid s0
  clear s0
  have hcat1:(⟨#[40]⟩:ByteArray) ++ ⟨o.toArray⟩=⟨([40]++o).toArray⟩:=bcat [40] o
  have hcat2:(⟨en.toArray⟩:ByteArray) ++ ⟨#[32]⟩=⟨(en++[32]).toArray⟩:=bcat en [32]
  go_enter Tryz.func161,Tryz.ntmps161
  go_wp2_with fail
  refine(writeString_any b b acc _ _ H0.out.bld (by simp only[List.length_append,List.length_cons,List.length_nil];omega) H0.out.le).mono ?_
  rintro e w1⟨rfl,h1,hb1,hk1⟩
  have H1:=Lib.hid (H0.out.next h1 hb1 hk1)
  clear h1 hb1 hk1
  have hR0:=Lib.cell_of_heap H1.out.box 0
  have hR1:=Lib.cell_of_heap H1.out.box 1
  have hR2:=Lib.cell_of_heap H1.out.box 2
  have hR3:=Lib.cell_of_heap H1.out.box 3
  have hW:=cell_of_one H1.out.env.tw
  go_wp2_with fail
  refine(HT.out w1 _ [58] _ [41] hsz hf (by simp) HV.out H1.out.env H1.out.bld (by simp only[List.length_append,List.length_cons,List.length_nil];omega)).mono ?_
  rintro e w3⟨rfl,h3,hb3,hk3⟩
  have H3:=Lib.hid (H1.out.next h3 hb3 hk3)
  clear h3 hb3 hk3
  go_wp2_with fail
  go_end0
  exact⟨rfl,by simpa[List.append_assoc] using H3.out.bld,H3.out.bel,H3.out.kept⟩
 |[],h=>simp at h
 |_ :: _ :: _ :: _,h=>simp at h
end Go.Proofs.YthajalgkjonaaaaGreatDoor
namespace Go.Proofs.YthajalgkjonaaaaGreatDoor
open Go.RowKit
def QuoteAt(w0:World)(Bq:Nat)(q:List (List UInt8)):Prop:=Bq<w0.heap.size∧q.length≤1000000000∧∃A c,w0.cell? ⟨Bq,0,none⟩=some (.slice A q.length c)∧NamesAt w0 A q
theorem formed_cases{k:Int}{n:List UInt8}{m:Nat}(h:Lfc.formed k n m=true) :
  ((k=1∨k=2∨k=3∨k=4)∧m=0)∨((k=5∨k=6∨k=9)∧m=2)∨((k=7∨k=8)∧(m=1∨m=2)):=by
 unfold Lfc.formed at h
 split at h
 ·simp at h;omega
 split at h
 ·simp at h;omega
 split at h
 ·simp at h;omega
 split at h
 ·simp at h;omega
 ·cases h
set_option maxRecDepth 100000 in
set_option maxHeartbeats 400000 in
theorem write_upto(w0:World)(b Bq:Nat)(q:List (List UInt8))(hq:QuoteAt w0 Bq q)(m:Nat):WriteUpto w0 b Bq q m:=by
 induction m with
 |zero=>intro t v w acc h _ _ _ _;have:=t.size_pos;omega
 | succ m ih =>
  intro t v w acc hsz hform hv henv hbld hbd
  obtain⟨k,n,p,ts⟩:=t
  simp only[Lfc.Raw.size] at hsz
  rw[Lfc.Raw.form,Bool.and_eq_true] at hform
  obtain⟨hfd,hfs⟩:=hform
  have hn:=hv.name_le
  have hk:=formed_cases hfd
  clear hfd
  simp only[Lfc.Raw.text] at *
  have e1:=enters_two
  have e2:=enters_binder
  have HT:=Lib.hid (fun W A o mid en=>two_any w0 b Bq q m ih k p n ts v W A o mid en (by omega) hfs)
  have HB:=Lib.hid (fun W A o en=>binder_any w0 b Bq q m ih k p n ts v W A o en (by omega) hfs)
  have HV:=Lib.hid hv
  obtain⟨A,c,rfl,hc,hA⟩:=hv.open_
  have H0:=Lib.hid (StF.start #[.int .i64 k,S n,.int .i64 p,.slice A ts.length c] hbld henv)
  have hW:=cell_of_one H0.out.env.tw
  have hB:=cell_of_one H0.out.env.bi
  clear ih hv henv hbld hA
  obtain⟨hBq,hql,Aq,cq,hqc,hqn⟩:=hq
  have hq1:=(H0.out.env.bel.cell (p:=⟨Bq,0,none⟩) hBq).trans hqc
  have HN:=Lib.hid (contains_any q n Aq cq _ hql (hqn.below H0.out.env.bel))
  clear hqn hqc hBq hql
  rcases hk with⟨rfl | rfl | rfl | rfl,hm⟩ | ⟨rfl | rfl | rfl,hm⟩ | ⟨rfl | rfl,hm⟩
  ·have HX:=Lib.hid (show Lfc.putText q 1 n (Lfc.Raw.texts q ts)=if n∈q then [40]++n++[41] else n from rfl)
   rw[HX.out] at hbd ⊢
   clear hm HX
   by_cases hmem:n∈q
   ·rw[decide_eq_true hmem] at HN
    rw[if_pos hmem] at hbd ⊢
    have hcat1:(⟨#[40]⟩:ByteArray) ++ ⟨n.toArray⟩=⟨([40]++n).toArray⟩:=bcat [40] n
    have hcat2:(⟨([40]++n).toArray⟩:ByteArray) ++ ⟨#[41]⟩=⟨([40]++n++[41]).toArray⟩:=bcat ([40]++n) [41]
    clear hmem
    go_enter Tryz.func162,Tryz.ntmps162
    go_wp2_with fail
    refine HN.out.mono ?_
    rintro e w1⟨rfl,rfl⟩
    go_wp2_with fail
    refine(writeString_any b b acc ([40]++n++[41]) _ H0.out.bld hbd H0.out.le).mono ?_
    rintro e w1⟨rfl,h1,hb1,hk1⟩
    have H1:=Lib.hid (H0.out.next h1 hb1 hk1)
    clear h1 hb1 hk1
    go_wp2_with fail
    refine bodyPost_ret (results_none rfl _ _ _) rfl ?_
    exact⟨rfl,H1.out.bld,H1.out.bel,H1.out.kept⟩
   ·rw[decide_eq_false hmem] at HN
    rw[if_neg hmem] at hbd ⊢
    clear hmem
    go_enter Tryz.func162,Tryz.ntmps162
    go_wp2_with fail
    refine HN.out.mono ?_
    rintro e w1⟨rfl,rfl⟩
    go_wp2_with fail
    refine(writeString_any b b acc n _ H0.out.bld hbd H0.out.le).mono ?_
    rintro e w1⟨rfl,h1,hb1,hk1⟩
    have H1:=Lib.hid (H0.out.next h1 hb1 hk1)
    clear h1 hb1 hk1
    go_wp2_with fail
    go_end0
    exact⟨rfl,H1.out.bld,H1.out.bel,H1.out.kept⟩
  ·have HX:=Lib.hid (show Lfc.putText q 2 n (Lfc.Raw.texts q ts)=[64]++n from rfl)
   rw[HX.out] at hbd ⊢
   clear hm HX
   have hcat1:(⟨#[64]⟩:ByteArray) ++ ⟨n.toArray⟩=⟨([64]++n).toArray⟩:=bcat [64] n
   go_enter Tryz.func162,Tryz.ntmps162
   go_wp2_with fail
   refine(writeString_any b b acc _ _ H0.out.bld (by simp only[List.length_append,List.length_cons,List.length_nil] at hbd ⊢;omega) H0.out.le).mono ?_
   rintro e w1⟨rfl,h1,hb1,hk1⟩
   have H1:=Lib.hid (H0.out.next h1 hb1 hk1)
   clear h1 hb1 hk1
   go_wp2_with fail
   go_end0
   exact⟨rfl,H1.out.bld,H1.out.bel,H1.out.kept⟩
  ·have HX:=Lib.hid (show Lfc.putText q 3 n (Lfc.Raw.texts q ts)=[95] from rfl)
   rw[HX.out] at hbd ⊢
   clear hm HX
   go_enter Tryz.func162,Tryz.ntmps162
   go_wp2_with fail
   refine(writeString_any b b acc ([95]) _ H0.out.bld (by simp only[List.length_append,List.length_cons,List.length_nil] at hbd ⊢;omega) H0.out.le).mono ?_
   rintro e w1⟨rfl,h1,hb1,hk1⟩
   have H1:=Lib.hid (H0.out.next h1 hb1 hk1)
   clear h1 hb1 hk1
   go_wp2_with fail
   go_end0
   exact⟨rfl,H1.out.bld,H1.out.bel,H1.out.kept⟩
  ·have HX:=Lib.hid (show Lfc.putText q 4 n (Lfc.Raw.texts q ts)=[116,121,112,101] from rfl)
   rw[HX.out] at hbd ⊢
   clear hm HX
   go_enter Tryz.func162,Tryz.ntmps162
   go_wp2_with fail
   refine(writeString_any b b acc ([116,121,112,101]) _ H0.out.bld (by simp only[List.length_append,List.length_cons,List.length_nil] at hbd ⊢;omega) H0.out.le).mono ?_
   rintro e w1⟨rfl,h1,hb1,hk1⟩
   have H1:=Lib.hid (H0.out.next h1 hb1 hk1)
   clear h1 hb1 hk1
   go_wp2_with fail
   go_end0
   exact⟨rfl,H1.out.bld,H1.out.bel,H1.out.kept⟩
  ·have HX:=Lib.hid (show Lfc.putText q 5 n (Lfc.Raw.texts q ts)=Lfc.twoText [40] [32] [41] (Lfc.Raw.texts q ts) from rfl)
   rw[HX.out] at hbd ⊢
   have HM:=Lib.hid hm
   clear hm HX
   go_enter Tryz.func162,Tryz.ntmps162
   go_wp2_with fail
   refine(HT.out _ acc [40] [32] [41] (.inr HM.out) HV.out H0.out.env H0.out.bld hbd).mono ?_
   rintro e w1⟨rfl,h1,hb1,hk1⟩
   have H1:=Lib.hid (H0.out.next h1 hb1 hk1)
   clear h1 hb1 hk1
   go_wp2_with fail
   go_end0
   exact⟨rfl,H1.out.bld,H1.out.bel,H1.out.kept⟩
  ·have HX:=Lib.hid (show Lfc.putText q 6 n (Lfc.Raw.texts q ts)=Lfc.twoText [40] [32,45,62,32] [41] (Lfc.Raw.texts q ts) from rfl)
   rw[HX.out] at hbd ⊢
   have HM:=Lib.hid hm
   clear hm HX
   go_enter Tryz.func162,Tryz.ntmps162
   go_wp2_with fail
   refine(HT.out _ acc [40] [32,45,62,32] [41] (.inr HM.out) HV.out H0.out.env H0.out.bld hbd).mono ?_
   rintro e w1⟨rfl,h1,hb1,hk1⟩
   have H1:=Lib.hid (H0.out.next h1 hb1 hk1)
   clear h1 hb1 hk1
   go_wp2_with fail
   go_end0
   exact⟨rfl,H1.out.bld,H1.out.bel,H1.out.kept⟩
  ·have HX:=Lib.hid (show Lfc.putText q 9 n (Lfc.Raw.texts q ts)=Lfc.twoText [40] [32,58,32] [41] (Lfc.Raw.texts q ts) from rfl)
   rw[HX.out] at hbd ⊢
   have HM:=Lib.hid hm
   clear hm HX
   go_enter Tryz.func162,Tryz.ntmps162
   go_wp2_with fail
   refine(HT.out _ acc [40] [32,58,32] [41] (.inr HM.out) HV.out H0.out.env H0.out.bld hbd).mono ?_
   rintro e w1⟨rfl,h1,hb1,hk1⟩
   have H1:=Lib.hid (H0.out.next h1 hb1 hk1)
   clear h1 hb1 hk1
   go_wp2_with fail
   go_end0
   exact⟨rfl,H1.out.bld,H1.out.bel,H1.out.kept⟩
  ·have HX:=Lib.hid (show Lfc.putText q 7 n (Lfc.Raw.texts q ts)=Lfc.bindText n [123] [125] (Lfc.Raw.texts q ts) from rfl)
   rw[HX.out] at hbd ⊢
   have HM:=Lib.hid hm
   clear hm HX
   go_enter Tryz.func162,Tryz.ntmps162
   go_wp2_with fail
   refine(HB.out _ acc [123] [125] HM.out HV.out H0.out.env H0.out.bld hbd).mono ?_
   rintro e w1⟨rfl,h1,hb1,hk1⟩
   have H1:=Lib.hid (H0.out.next h1 hb1 hk1)
   clear h1 hb1 hk1
   go_wp2_with fail
   go_end0
   exact⟨rfl,H1.out.bld,H1.out.bel,H1.out.kept⟩
  ·have HX:=Lib.hid (show Lfc.putText q 8 n (Lfc.Raw.texts q ts)=Lfc.bindText n [91] [93] (Lfc.Raw.texts q ts) from rfl)
   rw[HX.out] at hbd ⊢
   have HM:=Lib.hid hm
   clear hm HX
   go_enter Tryz.func162,Tryz.ntmps162
   go_wp2_with fail
   refine(HB.out _ acc [91] [93] HM.out HV.out H0.out.env H0.out.bld hbd).mono ?_
   rintro e w1⟨rfl,h1,hb1,hk1⟩
   have H1:=Lib.hid (H0.out.next h1 hb1 hk1)
   clear h1 hb1 hk1
   go_wp2_with fail
   go_end0
   exact⟨rfl,H1.out.bld,H1.out.bel,H1.out.kept⟩
end Go.Proofs.YthajalgkjonaaaaGreatDoor
namespace Lfc
def Raw.fmt(q:List (List UInt8))(t:Raw):List UInt8:=if t.wf=0 then t.text q else []
theorem wf_zero{t:Raw}(h:t.wf=0):t.form=true∧t.size≤4096∧t.depth≤128:=by
 unfold Raw.wf at h
 split at h
 ·cases h
 ·rename_i h1
  split at h
  ·cases h
  ·rename_i h2
   exact⟨by simpa using h1,by omega,by omega⟩
end Lfc
namespace Go.Proofs.YthajalgkjonaaaaGreatDoor
open Go.RowKit
theorem heap_alloc_old(w:World)(o:Obj)(k:Nat)(x:Obj)(h:w.heap[k]?=some x):(w.alloc o).heap[k]?=some x :=
 (Lib.alloc_old w o k (lt_of_block h)).trans h
theorem fmtEnv(w:World)(Bq:Nat):∃w4,(((w.alloc (.cells #[.pointer none,.slice none 0 0] 78)).alloc
   (.cells #[.func (.func 162) #[] #[.pointer (some ⟨Bq,0,none⟩),.pointer (some ⟨w.heap.size,0,none⟩),.pointer (some ⟨w.heap.size+1+1,0,none⟩),.pointer (some ⟨w.heap.size+1+1+1,0,none⟩)]] 114)).alloc
   (.cells #[.func (.func 160) #[] #[.pointer (some ⟨w.heap.size,0,none⟩),.pointer (some ⟨w.heap.size+1,0,none⟩)]] 192)).alloc
   (.cells #[.func (.func 161) #[] #[.pointer (some ⟨w.heap.size,0,none⟩),.pointer (some ⟨w.heap.size+1+1,0,none⟩)]] 193)=w4 ∧
  EnvF w w.heap.size Bq w4∧Bld w.heap.size w.heap.size [] w4∧Below w.heap.size w w4∧w4.heap.size=w.heap.size+4:=by
 refine⟨_,rfl,⟨rfl,?_,?_,?_,?_⟩,?_,?_,by simp⟩
 ·exact((((Below.refl _ _).alloc (Nat.le_refl _) _).alloc (by simp) _).alloc (by simp;omega) _).alloc (by simp;omega) _
 ·refine heap_alloc_old _ _ _ _ (heap_alloc_old _ _ _ _ ?_)
  have:=heap_alloc_new (w.alloc (.cells #[.pointer none,.slice none 0 0] 78)) (.cells #[.func (.func 162) #[] #[.pointer (some ⟨Bq,0,none⟩),.pointer (some ⟨w.heap.size,0,none⟩),.pointer (some ⟨w.heap.size+1+1,0,none⟩),.pointer (some ⟨w.heap.size+1+1+1,0,none⟩)]] 114)
  simpa using this
 ·refine heap_alloc_old _ _ _ _ ?_
  have:=fun W:World=>heap_alloc_new W (.cells #[.func (.func 160) #[] #[.pointer (some ⟨w.heap.size,0,none⟩),.pointer (some ⟨w.heap.size+1,0,none⟩)]] 192)
  have h2:=this ((w.alloc (.cells #[.pointer none,.slice none 0 0] 78)).alloc
   (.cells #[.func (.func 162) #[] #[.pointer (some ⟨Bq,0,none⟩),.pointer (some ⟨w.heap.size,0,none⟩),.pointer (some ⟨w.heap.size+1+1,0,none⟩),.pointer (some ⟨w.heap.size+1+1+1,0,none⟩)]] 114))
  simpa using h2
 ·have:=fun W:World=>heap_alloc_new W (.cells #[.func (.func 161) #[] #[.pointer (some ⟨w.heap.size,0,none⟩),.pointer (some ⟨w.heap.size+1+1,0,none⟩)]] 193)
  have h2:=this (((w.alloc (.cells #[.pointer none,.slice none 0 0] 78)).alloc
   (.cells #[.func (.func 162) #[] #[.pointer (some ⟨Bq,0,none⟩),.pointer (some ⟨w.heap.size,0,none⟩),.pointer (some ⟨w.heap.size+1+1,0,none⟩),.pointer (some ⟨w.heap.size+1+1+1,0,none⟩)]] 114)).alloc
   (.cells #[.func (.func 160) #[] #[.pointer (some ⟨w.heap.size,0,none⟩),.pointer (some ⟨w.heap.size+1,0,none⟩)]] 192))
  simpa using h2
 ·exact(((bld_new w).alloc _).alloc _).alloc _
 ·exact((((Below.refl _ _).alloc (Nat.le_refl _) _).alloc (by simp) _).alloc (by simp;omega) _).alloc (by simp;omega) _
set_option maxRecDepth 100000 in
set_option maxHeartbeats 2000000 in
theorem format_any(t:Lfc.Raw)(v:Value)(q:List (List UInt8))(Aq:Option Addr)(cq:Nat)(w:World)(hmax:t.size≤1000000000)(hv:TreeV w t v)(hql:q.length≤1000000000)(hq:NamesAt w Aq q) :
  Calls Tryz.prog 109 #[v,.slice Aq q.length cq] w fun e w'=>e=.returned (S (t.fmt q))∧Below w.heap.size w w':=by
 have he:=enters_write
 have hshort:=hv.short
 obtain⟨A,c,kd,nm,ps,ts,hT,rfl,hc,hA⟩:∃A c kd nm ps ts,t=.node kd nm ps ts∧v=.agg #[.int .i64 kd,S nm,.int .i64 ps,.slice A ts.length c]∧ts.length≤c∧TreesAt w A ts:=by
  obtain⟨kd,nm,ps,ts⟩:=t
  obtain⟨A,c,rfl,hc,hA⟩:=hv.open_
  exact⟨A,c,kd,nm,ps,ts,rfl,rfl,hc,hA⟩
 clear hT hA
 obtain⟨wa,hwa⟩:∃wa,w.alloc (.cells #[.int .i64 kd,S nm,.int .i64 ps,.slice A ts.length c] 46)=wa:=⟨_,rfl⟩
 have ba:Below w.heap.size w wa:=by rw[←hwa];exact(Below.refl _ _).alloc (Nat.le_refl _) _
 have sa:wa.heap.size=w.heap.size+1:=by rw[←hwa];simp
 have hx0:wa.cell? ⟨w.heap.size,0,none⟩=some (.int .i64 kd):=by rw[←hwa];simp
 have hx1:wa.cell? ⟨w.heap.size,1,none⟩=some (S nm):=by rw[←hwa];simp
 have hx2:wa.cell? ⟨w.heap.size,2,none⟩=some (.int .i64 ps):=by rw[←hwa];simp
 have hx3:wa.cell? ⟨w.heap.size,3,none⟩=some (.slice A ts.length c):=by rw[←hwa];simp
 obtain⟨w1,hw1⟩:∃w1,wa.alloc (.cells #[.slice Aq q.length cq] 36)=w1:=⟨_,rfl⟩
 have b1:Below wa.heap.size wa w1:=by rw[←hw1];exact(Below.refl _ _).alloc (Nat.le_refl _) _
 have s1:w1.heap.size=wa.heap.size+1:=by rw[←hw1];simp
 have hqc:w1.cell? ⟨wa.heap.size,0,none⟩=some (.slice Aq q.length cq):=by rw[←hw1];simp
 have b01:Below w.heap.size w w1:=ba.trans (b1.mono (by omega))
 have hy0:=(b1.cell (p:=⟨w.heap.size,0,none⟩) (by simp only;omega)).trans hx0
 have hy1:=(b1.cell (p:=⟨w.heap.size,1,none⟩) (by simp only;omega)).trans hx1
 have hy2:=(b1.cell (p:=⟨w.heap.size,2,none⟩) (by simp only;omega)).trans hx2
 have hy3:=(b1.cell (p:=⟨w.heap.size,3,none⟩) (by simp only;omega)).trans hx3
 clear hx0 hx1 hx2 hx3
 have HV:=Lib.hid (hv.below b01)
 have HQ:=Lib.hid (hq.below b01)
 clear hq hv
 rw[sa] at hqc
 by_cases hz:t.wf=0
 ·have hf:t.fmt q=t.text q:=if_pos hz
  rw[hf]
  go_enter Tryz.func109,Tryz.ntmps109
  go_upto_region 1 with fail
  clear hw1 hwa
  go_wp2_with fail
  refine(wf_any t _ _ hmax HV.out).mono ?_
  rintro e w2⟨rfl,hb2⟩
  rw[hz]
  clear hf
  have hs2:=hb2.size
  obtain⟨w4,hw4,hE,hB,hb4,hs4⟩:=fmtEnv w2 (w.heap.size+1)
  go_upto_region 8 with fail
  clear hw4
  have b4:Below w1.heap.size w1 w4:=hb2.trans (hb4.mono hs2)
  have hz0:=(b4.cell (p:=⟨w.heap.size,0,none⟩) (by simp only;omega)).trans hy0
  have hz1:=(b4.cell (p:=⟨w.heap.size,1,none⟩) (by simp only;omega)).trans hy1
  have hz2:=(b4.cell (p:=⟨w.heap.size,2,none⟩) (by simp only;omega)).trans hy2
  have hz3:=(b4.cell (p:=⟨w.heap.size,3,none⟩) (by simp only;omega)).trans hy3
  clear hy0 hy1 hy2 hy3
  have hW:=cell_of_one hE.wr
  obtain⟨hfm,hsz,_⟩:=Lfc.wf_zero hz
  have hlen:=Lfc.text_len q 1000000 t hshort
  have hlen2:t.size*(1000000+20)≤4096*1000020:=Nat.mul_le_mul_right _ hsz
  have HWr:=Lib.hid (write_upto w2 w2.heap.size (w.heap.size+1) q ⟨by omega,hql,Aq,cq,(hb2.cell (p:=⟨w.heap.size+1,0,none⟩) (by simp only;omega)).trans hqc,HQ.out.below hb2⟩ t.size t _ w4 [] (Nat.le_refl _) hfm (HV.out.below hb2) hE hB (by simp only[List.length_nil];omega))
  clear hE hB hlen hlen2 hqc hz
  go_wp2_with fail
  refine HWr.out.mono ?_
  rintro e w5⟨rfl,hB5,hb5,_⟩
  have hs5:=hb5.size
  go_wp2_with fail
  refine(string_any w2.heap.size w2.heap.size _ w5 hB5 (by omega)).mono ?_
  rintro e w6⟨rfl,_,hb6,_⟩
  go_wp2_with fail
  go_ret
  exact⟨rfl,b01.trans ((b4.mono (by omega)).trans ((hb5.mono (by omega)).trans (hb6.mono (by omega))))⟩
 ·have hf:t.fmt q=[]:=if_neg hz
  rw[hf]
  have hg:(t.wf != 0)=true:=by simpa using hz
  clear hf hz
  go_enter Tryz.func109,Tryz.ntmps109
  go_upto_region 1 with fail
  clear hw1 hwa
  go_wp2_with fail
  refine(wf_any t _ _ hmax HV.out).mono ?_
  rintro e w2⟨rfl,hb2⟩
  go_wp2_with fail
  go_ret
  exact⟨rfl,b01.trans (hb2.mono (by omega))⟩
end Go.Proofs.YthajalgkjonaaaaGreatDoor
namespace Go.Proofs.YthajalgkjonaaaaGreatDoor
open Go.RowKit
abbrev Oth(T:Nat)(w w':World):Prop:=w.grownBy w' (some T)
theorem Oth.refl(T:Nat)(w:World):Oth T w w:=⟨rfl,rfl,rfl,Nat.le_refl _,fun _ _ _=>rfl⟩
theorem Oth.trans{T:Nat}{w w1 w2:World}(h:Oth T w w1)(h':Oth T w1 w2):Oth T w w2 :=
 ⟨h'.os.trans h.os,h'.tape.trans h.tape,h'.output.trans h.output,Nat.le_trans h.size h'.size,fun k hk hn=>(h'.block k (Nat.lt_of_lt_of_le hk h.size) hn).trans (h.block k hk hn)⟩
theorem Oth.of_below{T:Nat}{w w':World}(h:Below w.heap.size w w'):Oth T w w':=⟨h.os,h.tape,h.output,h.size,fun k hk _=>h.block k hk⟩
theorem Oth.of_new{T:Nat}{w w1 w2:World}(h:Oth T w w1)(h':Below w.heap.size w1 w2):Oth T w w2 :=
 ⟨h'.os.trans h.os,h'.tape.trans h.tape,h'.output.trans h.output,Nat.le_trans h.size h'.size,fun k hk hn=>(h'.block k hk).trans (h.block k hk hn)⟩
theorem Oth.set{T j:Nat}(w:World)(v:Value):Oth T w (w.setCell ⟨T,j,none⟩ v) :=
 ⟨rfl,rfl,rfl,by simp[World.setCell],fun k _ hk=>Below.heap_setCell _ _ _ _ (fun e=>hk (by simp[e]))⟩
theorem Oth.drew{T:Nat}{w w':World}(h:Oth T w w'):Oth T w w'.drew:=⟨h.os,h.tape,h.output,h.size,h.block⟩
theorem Oth.cell{T:Nat}{w w':World}(h:Oth T w w'){p:Addr}(hp:p.block<w.heap.size)(hn:p.block≠T):w'.cell? p=w.cell? p :=
 World.cell?_of_block (h.block _ hp (fun e=>hn (Option.some.inj e)))
theorem Oth.heap{T:Nat}{w w':World}(h:Oth T w w'){k:Nat}{o:Obj}(hk:w.heap[k]?=some o)(hn:k≠T):w'.heap[k]?=some o :=
 (h.block k (lt_of_block hk) (fun e=>hn (Option.some.inj e))).trans hk
theorem Oth.below{T B:Nat}{w w1 w2:World}(h:Below B w w1)(h':Oth T w1 w2)(hT:B≤T)(hB:B≤w1.heap.size):Below B w w2 :=
 ⟨h'.os.trans h.os,h'.tape.trans h.tape,h'.output.trans h.output,Nat.le_trans h.size h'.size,fun k hk=>(h'.block k (by omega) (fun e=>by have:=Option.some.inj e;omega)).trans (h.block k hk)⟩
end Go.Proofs.YthajalgkjonaaaaGreatDoor
namespace Go.Proofs.YthajalgkjonaaaaGreatDoor
open Go.RowKit
structure TapeL(T:Nat)(w:World):Prop where
 t:∃(A:Option Addr)(n c i:Nat),w.heap[T]?=some (.cells #[.slice A n c,.int .i64 (i:Int)] 50 (0,0))∧i≤n∧n≤maxLen∧(0<n→∃b o,A=some ⟨b,o,none⟩∧b<T∧∀k,k<n→∃x,w.cell? ⟨b,o+k,none⟩=some (.int .i64 x))
theorem TapeL.lt{T:Nat}{w:World}(h:TapeL T w):T<w.heap.size:=by
 obtain⟨A,n,c,i,ht,_⟩:=h.t
 exact lt_of_block ht
theorem TapeL.below{T:Nat}{w w':World}(h:TapeL T w)(hb:Below w.heap.size w w'):TapeL T w':=by
 have hlt:=h.lt
 obtain⟨A,n,c,i,ht,hi,hn,hc⟩:=h.t
 refine⟨⟨A,n,c,i,(hb.block T hlt).trans ht,hi,hn,fun hp=>?_⟩⟩
 obtain⟨b,o,hA,hbT,hx⟩:=hc hp
 refine⟨b,o,hA,hbT,fun k hk=>?_⟩
 obtain⟨x,hx⟩:=hx k hk
 exact⟨x,(hb.cell (p:=⟨b,o+k,none⟩) (by simp only;omega)).trans hx⟩
theorem TapeL.moved{T:Nat}{w w':World}(h:TapeL T w)(ho:Oth T w w'){A:Option Addr}{n c i i':Nat}(ht:w.heap[T]?=some (.cells #[.slice A n c,.int .i64 (i:Int)] 50 (0,0)))(ht':w'.heap[T]?=some (.cells #[.slice A n c,.int .i64 (i':Int)] 50 (0,0)))(hi:i'≤n):TapeL T w':=by
 have hlt:=h.lt
 obtain⟨A0,n0,c0,i0,ht0,_,hn,hc⟩:=h.t
 rw[ht] at ht0
 cases ht0
 refine⟨⟨A,n,c,i',ht',hi,hn,fun hp=>?_⟩⟩
 obtain⟨b,o,hA,hbT,hx⟩:=hc hp
 refine⟨b,o,hA,hbT,fun k hk=>?_⟩
 obtain⟨x,hx⟩:=hx k hk
 exact⟨x,(ho.cell (p:=⟨b,o+k,none⟩) (by simp only;omega) (by simp only;omega)).trans hx⟩
theorem TapeL.oth{T R:Nat}{w w':World}(h:TapeL T w)(hR:T<R)(ho:Oth R w w'):TapeL T w':=by
 have hlt:=h.lt
 obtain⟨A,n,c,i,ht,hi,hn,hc⟩:=h.t
 refine⟨⟨A,n,c,i,ho.heap ht (by omega),hi,hn,fun hp=>?_⟩⟩
 obtain⟨b,o,hA,hbT,hx⟩:=hc hp
 refine⟨b,o,hA,hbT,fun k hk=>?_⟩
 obtain⟨x,hx⟩:=hx k hk
 exact⟨x,(ho.cell (p:=⟨b,o+k,none⟩) (by simp only;omega) (by simp only;omega)).trans hx⟩
set_option maxRecDepth 100000 in
set_option maxHeartbeats 2000000 in
theorem tapeL_next(T n:Nat)(w:World)(h0:0<n)(h1:n≤100)(h:TapeL T w) :
  Calls Tryz.prog 32 #[.pointer (some ⟨T,0,none⟩),.int .i64 (n:Int)] w fun e w'=>(∃r:Nat,r<n∧e=.returned (.int .i64 (r:Int)))∧TapeL T w'∧Oth T w w':=by
 obtain⟨A,l,c,i,ht,hi,hl,hc⟩:=h.t
 have hT:=h.lt
 have H:=Lib.hid h
 have HT:=Lib.hid ht
 have ht0:=Lib.cell_of_heap ht 0
 have ht1:=Lib.cell_of_heap ht 1
 simp at ht0 ht1
 have hf1:=Lib.frozen_of_heap ht 1
 have hl':l≤9223372036854775807:=by unfold maxLen at hl;omega
 clear h ht hl
 by_cases hil:i<l
 ·obtain⟨b,o,rfl,hbT,hx⟩:=hc (by omega)
  obtain⟨x,hx⟩:=hx i hil
  clear hc
  have hd:decide ((i:Int)≥(l:Int))=false:=by simp;omega
  obtain⟨w1,hw1⟩:∃w1,w.setCell ⟨T,1,none⟩ (.int .i64 ((i:Int)+1))=w1:=⟨_,rfl⟩
  have o1:Oth T w w1:=by rw[←hw1];exact Oth.set w _
  have q1:w1.heap[T]?=some (.cells #[.slice (some ⟨b,o,none⟩) l c,.int .i64 ((i:Int)+1)] 50 (0,0)):=by
   rw[←hw1];simp[World.setCell,Array.getElem?_modify,HT.out]
  have y0:=Lib.cell_of_heap q1 0
  have y1:=Lib.cell_of_heap q1 1
  simp at y0 y1
  have hx1:=(o1.cell (p:=⟨b,o+i,none⟩) (by simp only;omega) (by simp only;omega)).trans hx
  go_enter Tryz.func32,Tryz.ntmps32
  go_upto_region 1 with fail
  refine wp_region_still_tail 9 (by kernel_rfl) (by kernel_rfl) ?_
  simp only[List.take_succ_cons,List.take_zero,List.drop_succ_cons,List.drop_zero]
  change wpStill Tryz.prog _ w.drew _ _ _
  repeat still_step
  try refine wpStill_nil ?_
  change wpList _ _ _ _ _ w.drew
  go_upto_region 4 with fail
  have hq:=cutI_lt x n h0
  clear hw1
  have hi2:IntKind.i64.wrap (i:Int)=(i:Int):=IntWalk.i64_in _ ⟨by omega,by omega⟩
  refine wp_region_still_tail 13 (by kernel_rfl) (by kernel_rfl) ?_
  simp only[List.take_succ_cons,List.take_zero,List.drop_succ_cons,List.drop_zero]
  change wpStill Tryz.prog _ w1.drew.drew _ _ _
  repeat still_step
  still_call (cut_any x n _ h0 (by omega))
  repeat still_step
  try refine wpStill_nil ?_
  change wpList _ _ _ _ _ w1.drew.drew
  go_wp2_with fail
  go_ret
  exact⟨⟨_,hq,rfl⟩,(H.out.moved o1 HT.out (i':=i+1) (by simpa using q1) (by omega)).below (Below.refl _ _).drew.drew,o1.drew.drew⟩
 ·have hd:decide ((i:Int)≥(l:Int))=true:=by simp;omega
  go_enter Tryz.func32,Tryz.ntmps32
  go_upto_region 1 with fail
  refine wp_region_still_tail 9 (by kernel_rfl) (by kernel_rfl) ?_
  simp only[List.take_succ_cons,List.take_zero,List.drop_succ_cons,List.drop_zero]
  change wpStill Tryz.prog _ w.drew _ _ _
  repeat still_step
  try refine wpStill_nil ?_
  change wpList _ _ _ _ _ w.drew
  go_wp2_with fail
  go_ret
  exact⟨⟨0,h0,rfl⟩,H.out.below (Below.refl _ _).drew,(Oth.refl _ _).drew⟩
theorem tapeL_new{w wT:World}{vl:Value}{zl:List Int}(hl:IntsAt w vl zl)(T:Nat)(hT:w.heap.size≤T)(hb:Below w.heap.size w wT)(ht:wT.heap[T]?=some (.cells #[vl,.int .i64 0] 50 (0,0))):TapeL T wT:=by
 obtain⟨A,c,rfl,h1,h2⟩:=hl
 refine⟨⟨A,zl.length,c,0,ht,Nat.zero_le _,h1,fun hp=>?_⟩⟩
 obtain⟨b,o,hA,hlt,hc⟩:=h2 hp
 exact⟨b,o,hA,by omega,fun k hk=>⟨_,(hb.cell (p:=⟨b,o+k,none⟩) hlt).trans (hc k hk)⟩⟩
end Go.Proofs.YthajalgkjonaaaaGreatDoor
namespace Lfc
def words:List (List UInt8):=[[97],[98],[78],[77],[43],[42],[126],[33],[110,97,116],[102],[64,120],[116,121,112,101],[]]
end Lfc
namespace Go.Proofs.YthajalgkjonaaaaGreatDoor
open Go.RowKit
end Go.Proofs.YthajalgkjonaaaaGreatDoor
namespace Go.Proofs.YthajalgkjonaaaaGreatDoor
open Go.RowKit
mutual
def TreeP(q:Nat→Prop)(w:World):Lfc.Raw→Value→Value→Value→Value→Prop
 |.node k n p ts,v0,v1,v2,v3=>v0=.int .i64 k∧v1=S n∧n.length≤1000000∧v2=.int .i64 p∧∃A c,v3=.slice A ts.length c∧ts.length≤c∧(ts≠[]→∃b o,A=some ⟨b,o,none⟩∧b<w.heap.size∧q b∧TreesP q w b ts o)
def TreesP(q:Nat→Prop)(w:World)(b:Nat):List Lfc.Raw→Nat→Prop
 |[],_=>True
 |t :: r,o=>(∃v0 v1 v2 v3,w.cell? ⟨b,o,none⟩=some v0∧w.cell? ⟨b,o+1,none⟩=some v1∧w.cell? ⟨b,o+2,none⟩=some v2∧w.cell? ⟨b,o+3,none⟩=some v3∧TreeP q w t v0 v1 v2 v3)∧TreesP q w b r (o+4)
end
mutual
theorem TreeP.keep{q q':Nat→Prop}{w w':World}(hk:∀b,q b→b<w.heap.size→w'.heap[b]?=w.heap[b]?)(hs:w.heap.size≤w'.heap.size)(hq:∀b,b<w.heap.size→q b→q' b):∀(t:Lfc.Raw)(v0 v1 v2 v3:Value),TreeP q w t v0 v1 v2 v3→TreeP q' w' t v0 v1 v2 v3
 |.node k n p ts,v0,v1,v2,v3,h=>by
  rw[TreeP] at h ⊢
  obtain⟨h0,h1,hn,h2,A,c,h3,h4,h5⟩:=h
  refine⟨h0,h1,hn,h2,A,c,h3,h4,fun hne=>?_⟩
  obtain⟨b,o,hA,hlt,hqb,hts⟩:=h5 hne
  exact⟨b,o,hA,Nat.lt_of_lt_of_le hlt hs,hq b hlt hqb,TreesP.keep hk hs hq ts b o hlt hqb hts⟩
theorem TreesP.keep{q q':Nat→Prop}{w w':World}(hk:∀b,q b→b<w.heap.size→w'.heap[b]?=w.heap[b]?)(hs:w.heap.size≤w'.heap.size)(hq:∀b,b<w.heap.size→q b→q' b):∀(ts:List Lfc.Raw)(b o:Nat),b<w.heap.size→q b→TreesP q w b ts o→TreesP q' w' b ts o
 |[],_,_,_,_,_=>by rw[TreesP];trivial
 |t :: r,b,o,hlt,hb,h=>by
  rw[TreesP] at h ⊢
  obtain⟨⟨v0,v1,v2,v3,c0,c1,c2,c3,ht⟩,hr⟩:=h
  have hc:=fun j=>World.cell?_of_block (a:=⟨b,j,none⟩) (hk b hb hlt)
  exact⟨⟨v0,v1,v2,v3,(hc _).trans c0,(hc _).trans c1,(hc _).trans c2,(hc _).trans c3,TreeP.keep hk hs hq t v0 v1 v2 v3 ht⟩,TreesP.keep hk hs hq r b (o+4) hlt hb hr⟩
end
mutual
theorem TreeP.toC{q:Nat→Prop}{w:World}:∀(t:Lfc.Raw)(v0 v1 v2 v3:Value),TreeP q w t v0 v1 v2 v3→TreeC w t v0 v1 v2 v3
 |.node k n p ts,v0,v1,v2,v3,h=>by
  rw[TreeP] at h
  rw[TreeC]
  obtain⟨h0,h1,hn,h2,A,c,h3,h4,h5⟩:=h
  refine⟨h0,h1,hn,h2,A,c,h3,h4,fun hne=>?_⟩
  obtain⟨b,o,hA,hlt,hqb,hts⟩:=h5 hne
  exact⟨b,o,hA,hlt,TreesP.toC ts b o hts⟩
theorem TreesP.toC{q:Nat→Prop}{w:World}:∀(ts:List Lfc.Raw)(b o:Nat),TreesP q w b ts o→TreesO w b ts o
 |[],_,_,_=>by rw[TreesO];trivial
 |t :: r,b,o,h=>by
  rw[TreesP] at h
  rw[TreesO]
  obtain⟨⟨v0,v1,v2,v3,c0,c1,c2,c3,ht⟩,hr⟩:=h
  exact⟨⟨v0,v1,v2,v3,c0,c1,c2,c3,TreeP.toC t v0 v1 v2 v3 ht⟩,TreesP.toC r b (o+4) hr⟩
end
mutual
theorem TreeC.toP{q:Nat→Prop}{w:World}(hq:∀b,b<w.heap.size→q b):∀(t:Lfc.Raw)(v0 v1 v2 v3:Value),TreeC w t v0 v1 v2 v3→TreeP q w t v0 v1 v2 v3
 |.node k n p ts,v0,v1,v2,v3,h=>by
  rw[TreeC] at h
  rw[TreeP]
  obtain⟨h0,h1,hn,h2,A,c,h3,h4,h5⟩:=h
  refine⟨h0,h1,hn,h2,A,c,h3,h4,fun hne=>?_⟩
  obtain⟨b,o,hA,hlt,hts⟩:=h5 hne
  exact⟨b,o,hA,hlt,hq b hlt,TreesO.toP hq ts b o hts⟩
theorem TreesO.toP{q:Nat→Prop}{w:World}(hq:∀b,b<w.heap.size→q b):∀(ts:List Lfc.Raw)(b o:Nat),TreesO w b ts o→TreesP q w b ts o
 |[],_,_,_=>by rw[TreesP];trivial
 |t :: r,b,o,h=>by
  rw[TreesO] at h
  rw[TreesP]
  obtain⟨⟨v0,v1,v2,v3,c0,c1,c2,c3,ht⟩,hr⟩:=h
  exact⟨⟨v0,v1,v2,v3,c0,c1,c2,c3,TreeC.toP hq t v0 v1 v2 v3 ht⟩,TreesO.toP hq r b (o+4) hr⟩
end
def RowP(q:Nat→Prop)(w:World):List Lfc.Raw→List Value→Prop
 |[],xs=>xs=[]
 |t :: r,xs=>∃v0 v1 v2 v3 ys,xs=v0 :: v1 :: v2 :: v3 :: ys∧TreeP q w t v0 v1 v2 v3∧RowP q w r ys
theorem RowP.len{q:Nat→Prop}{w:World}:∀{ts:List Lfc.Raw}{xs:List Value},RowP q w ts xs→xs.length=4*ts.length
 |[],xs,h=>by rw[RowP] at h;subst h;rfl
 |t :: r,xs,h=>by
  rw[RowP] at h
  obtain⟨v0,v1,v2,v3,ys,rfl,_,hr⟩:=h
  have:=hr.len
  simp;omega
theorem RowP.keep{q q':Nat→Prop}{w w':World}(hk:∀b,q b→b<w.heap.size→w'.heap[b]?=w.heap[b]?)(hs:w.heap.size≤w'.heap.size)(hq:∀b,b<w.heap.size→q b→q' b):∀{ts:List Lfc.Raw}{xs:List Value},RowP q w ts xs→RowP q' w' ts xs
 |[],xs,h=>by rw[RowP] at h ⊢;exact h
 |t :: r,xs,h=>by
  rw[RowP] at h ⊢
  obtain⟨v0,v1,v2,v3,ys,rfl,ht,hr⟩:=h
  exact⟨v0,v1,v2,v3,ys,rfl,TreeP.keep hk hs hq t _ _ _ _ ht,hr.keep hk hs hq⟩
theorem RowP.append{q:Nat→Prop}{w:World}{us:List Lfc.Raw}{zs:List Value}(hz:RowP q w us zs):∀{ts:List Lfc.Raw}{xs:List Value},RowP q w ts xs→RowP q w (ts++us) (xs++zs)
 |[],xs,h=>by rw[RowP] at h;subst h;exact hz
 |t :: r,xs,h=>by
  rw[RowP] at h
  obtain⟨v0,v1,v2,v3,ys,rfl,ht,hr⟩:=h
  rw[List.cons_append,RowP]
  exact⟨v0,v1,v2,v3,ys++zs,by simp,ht,RowP.append hz hr⟩
theorem RowP.one{q:Nat→Prop}{w:World}{t:Lfc.Raw}{v0 v1 v2 v3:Value}(h:TreeP q w t v0 v1 v2 v3):RowP q w [t] [v0,v1,v2,v3]:=⟨v0,v1,v2,v3,[],rfl,h,rfl⟩
def CellsAt(w:World)(b o:Nat)(xs:List Value):Prop:=∀j u,xs[j]?=some u→w.cell? ⟨b,o+j,none⟩=some u
theorem RowP.lie{q:Nat→Prop}{w:World}{b:Nat}:∀{ts:List Lfc.Raw}{xs:List Value}{o:Nat},RowP q w ts xs→CellsAt w b o xs→TreesP q w b ts o
 |[],_,_,_,_=>by rw[TreesP];trivial
 |t :: r,xs,o,h,hc=>by
  rw[RowP] at h
  obtain⟨v0,v1,v2,v3,ys,rfl,ht,hr⟩:=h
  rw[TreesP]
  refine⟨⟨v0,v1,v2,v3,hc 0 _ rfl,hc 1 _ rfl,hc 2 _ rfl,hc 3 _ rfl,ht⟩,hr.lie fun j u hj=>?_⟩
  have:=hc (j+4) u (by simpa using hj)
  rw[show o+4+j=o+(j+4) by omega]
  exact this
theorem TreesP.row{q:Nat→Prop}{w:World}{b:Nat}:∀{ts:List Lfc.Raw}{o:Nat},TreesP q w b ts o→∃xs,RowP q w ts xs∧CellsAt w b o xs
 |[],_,_=>⟨[],by rw[RowP],fun j u h=>by simp at h⟩
 | t :: r, o, h => by
  rw[TreesP] at h
  obtain⟨⟨v0,v1,v2,v3,c0,c1,c2,c3,ht⟩,hr⟩:=h
  obtain⟨xs,hx,hc⟩:=hr.row
  refine⟨v0 :: v1 :: v2 :: v3 :: xs,?_,fun j u hj=>?_⟩
  ·rw[RowP];exact⟨v0,v1,v2,v3,xs,rfl,ht,hx⟩
  ·match j with
   |0=>simp at hj;subst hj;exact c0
   |1=>simp at hj;subst hj;exact c1
   |2=>simp at hj;subst hj;exact c2
   |3=>simp at hj;subst hj;exact c3
   |j+4 =>
    have:=hc j u (by simpa using hj)
    rw[show o+(j+4)=o+4+j by omega];exact this
theorem RowP.set{q:Nat→Prop}{w:World}{t:Lfc.Raw}{v0 v1 v2 v3:Value}(ht:TreeP q w t v0 v1 v2 v3):∀{ts:List Lfc.Raw}{xs:List Value}(i:Nat),i<ts.length→RowP q w ts xs→RowP q w (ts.set i t) ((((xs.set (i*4) v0).set (i*4+1) v1).set (i*4+2) v2).set (i*4+3) v3)
 |[],_,_,hi,_=>by simp at hi
 | u :: r, xs, i, hi, h => by
  rw[RowP] at h
  obtain⟨u0,u1,u2,u3,ys,rfl,hu,hr⟩:=h
  match i with
  |0=>simp only[List.set_cons_zero,Nat.zero_mul,Nat.zero_add,List.set_cons_succ];rw[RowP];exact⟨v0,v1,v2,v3,ys,rfl,ht,hr⟩
  |i+1 =>
   have:=RowP.set ht i (by simpa using hi) hr
   rw[show(i+1)*4=i*4+1+1+1+1 by omega]
   simp only[List.set_cons_succ]
   rw[RowP]
   exact⟨u0,u1,u2,u3,_,rfl,hu,this⟩
theorem CellsAt.set{w:World}{b o j0:Nat}{xs:List Value}(h:CellsAt w b o xs)(v:Value):CellsAt (w.setCell ⟨b,o+j0,none⟩ v) b o (xs.set j0 v):=by
 intro j u hj
 by_cases e:j=j0
 ·subst e
  have hl:j<xs.length:=by
   rcases Nat.lt_or_ge j xs.length with h1 | h1
   ·exact h1
   ·rw[List.set_eq_of_length_le h1,List.getElem?_eq_none h1] at hj;cases hj
  rw[List.getElem?_set_self hl] at hj
  cases hj
  refine World.cell?_setCell_same' _ _ _ ?_
  rw[h j xs[j] (List.getElem?_eq_getElem hl)];rfl
 ·rw[List.getElem?_set_ne (Ne.symm e)] at hj
  rw[World.cell?_setCell_other]
  ·exact h j u hj
  ·intro e';have:=congrArg Addr.off e';simp at this;omega
theorem taddr_add(b j:Nat):(⟨b,0,none⟩:Addr).add j=⟨b,j,none⟩:=by
 unfold Addr.add;split <;> simp_all
theorem own_cells{w:World}{base:Nat}{e:TypeId}{size n g cap:Nat}{xs:List Value}(h:w.ownsRow base e size (.slice (some ⟨g,0,none⟩) n cap) n xs):CellsAt w g 0 xs:=by
 intro j u hj
 have:=h.cells (g:=g) rfl j u hj
 rw[taddr_add] at this
 simpa using this
def TreesAtP(q:Nat→Prop)(w:World)(A:Option Addr)(ts:List Lfc.Raw):Prop:=ts≠[]→∃b o,A=some ⟨b,o,none⟩∧b<w.heap.size∧q b∧TreesP q w b ts o
theorem TreesAtP.keep{q q':Nat→Prop}{w w':World}{A:Option Addr}{ts:List Lfc.Raw}(hk:∀b,q b→b<w.heap.size→w'.heap[b]?=w.heap[b]?)(hs:w.heap.size≤w'.heap.size)(hq:∀b,b<w.heap.size→q b→q' b)(h:TreesAtP q w A ts):TreesAtP q' w' A ts:=fun hne=>by
 obtain⟨b,o,hA,hlt,hb,h⟩:=h hne
 exact⟨b,o,hA,Nat.lt_of_lt_of_le hlt hs,hq b hlt hb,TreesP.keep hk hs hq ts b o hlt hb h⟩
def TreeVP(q:Nat→Prop)(w:World)(t:Lfc.Raw)(v:Value):Prop:=∃v0 v1 v2 v3,v=.agg #[v0,v1,v2,v3]∧TreeP q w t v0 v1 v2 v3
theorem TreeVP.toV{q:Nat→Prop}{w:World}{t:Lfc.Raw}{v:Value}(h:TreeVP q w t v):TreeV w t v:=by
 obtain⟨v0,v1,v2,v3,rfl,h⟩:=h
 exact⟨v0,v1,v2,v3,rfl,TreeP.toC t _ _ _ _ h⟩
theorem TreeV.toP{q:Nat→Prop}{w:World}{t:Lfc.Raw}{v:Value}(hq:∀b,b<w.heap.size→q b)(h:TreeV w t v):TreeVP q w t v:=by
 obtain⟨v0,v1,v2,v3,rfl,h⟩:=h
 exact⟨v0,v1,v2,v3,rfl,TreeC.toP hq t _ _ _ _ h⟩
theorem TreeVP.mk{q:Nat→Prop}{w:World}{k p:Int}{n:List UInt8}{ts:List Lfc.Raw}{A:Option Addr}{c:Nat}(hn:n.length≤1000000)(hc:ts.length≤c)(h:TreesAtP q w A ts):TreeVP q w (.node k n p ts) (.agg #[.int .i64 k,S n,.int .i64 p,.slice A ts.length c]) :=
 ⟨_,_,_,_,rfl,by rw[TreeP];exact⟨rfl,rfl,hn,rfl,A,c,rfl,hc,h⟩⟩
theorem put4{W:World}{R:Nat}{a0 a1 a2 a3:Value}{t:TypeId}(h:W.heap[R]?=some (.cells #[a0,a1,a2,a3] t (0,0)))(v0 v1 v2 v3:Value):∃s1 s2 s3 s4,W.setCell ⟨R,0,none⟩ v0=s1∧s1.setCell ⟨R,1,none⟩ v1=s2∧s2.setCell ⟨R,2,none⟩ v2=s3∧s3.setCell ⟨R,3,none⟩ v3=s4 ∧
  (W.cell? ⟨R,0,none⟩=some a0∧s1.cell? ⟨R,1,none⟩=some a1∧s2.cell? ⟨R,2,none⟩=some a2∧s3.cell? ⟨R,3,none⟩=some a3) ∧
  (W.frozen? ⟨R,0,none⟩=false∧s1.frozen? ⟨R,1,none⟩=false∧s2.frozen? ⟨R,2,none⟩=false∧s3.frozen? ⟨R,3,none⟩=false) ∧
  s4.heap[R]?=some (.cells #[v0,v1,v2,v3] t (0,0))∧Oth R W s4:=by
 obtain⟨s1,h1⟩:∃s1,W.setCell ⟨R,0,none⟩ v0=s1:=⟨_,rfl⟩
 obtain⟨s2,h2⟩:∃s2,s1.setCell ⟨R,1,none⟩ v1=s2:=⟨_,rfl⟩
 obtain⟨s3,h3⟩:∃s3,s2.setCell ⟨R,2,none⟩ v2=s3:=⟨_,rfl⟩
 obtain⟨s4,h4⟩:∃s4,s3.setCell ⟨R,3,none⟩ v3=s4:=⟨_,rfl⟩
 have q1:s1.heap[R]?=some (.cells #[v0,a1,a2,a3] t (0,0)):=by rw[←h1];simp[World.setCell,Array.getElem?_modify,h]
 have q2:s2.heap[R]?=some (.cells #[v0,v1,a2,a3] t (0,0)):=by rw[←h2];simp[World.setCell,Array.getElem?_modify,q1]
 have q3:s3.heap[R]?=some (.cells #[v0,v1,v2,a3] t (0,0)):=by rw[←h3];simp[World.setCell,Array.getElem?_modify,q2]
 have q4:s4.heap[R]?=some (.cells #[v0,v1,v2,v3] t (0,0)):=by rw[←h4];simp[World.setCell,Array.getElem?_modify,q3]
 refine⟨s1,s2,s3,s4,h1,h2,h3,h4,⟨Lib.cell_of_heap h 0,Lib.cell_of_heap q1 1,Lib.cell_of_heap q2 2,Lib.cell_of_heap q3 3⟩,⟨Lib.frozen_of_heap h 0,Lib.frozen_of_heap q1 1,Lib.frozen_of_heap q2 2,Lib.frozen_of_heap q3 3⟩,q4,?_⟩
 rw[←h4,←h3,←h2,←h1]
 exact(((Oth.set W v0).trans (Oth.set _ v1)).trans (Oth.set _ v2)).trans (Oth.set _ v3)
end Go.Proofs.YthajalgkjonaaaaGreatDoor
namespace Go.Proofs.YthajalgkjonaaaaGreatDoor
open Go.RowKit Go.Maps Go.WideMaps
def opV(o:Lfc.Op):Value:=.agg #[S o.name,.int .i64 o.fix,.int .i64 o.prec]
def OpC(w:World)(b o:Nat)(x:Lfc.Op):Prop:=w.cell? ⟨b,o,none⟩=some (S x.name)∧w.cell? ⟨b,o+1,none⟩=some (.int .i64 x.fix)∧w.cell? ⟨b,o+2,none⟩=some (.int .i64 x.prec)
def OpsAt(w:World)(A:Option Addr)(l:List Lfc.Op):Prop:=(∀x∈l,x.name.length≤1000000)∧(l≠[]→∃b o,A=some ⟨b,o,none⟩∧b<w.heap.size∧∀i(h:i<l.length),OpC w b (o+i*3) l[i])
theorem OpsAt.below{w w':World}{A:Option Addr}{l:List Lfc.Op}(h:OpsAt w A l)(hb:Below w.heap.size w w'):OpsAt w' A l:=⟨h.1,fun hne=>by
 obtain⟨b,o,hA,hlt,hc⟩:=h.2 hne
 refine⟨b,o,hA,Nat.lt_of_lt_of_le hlt hb.size,fun i hi=>?_⟩
 obtain⟨c0,c1,c2⟩:=hc i hi
 exact⟨(hb.cell (p:=⟨b,_,none⟩) hlt).trans c0,(hb.cell (p:=⟨b,_,none⟩) hlt).trans c1,(hb.cell (p:=⟨b,_,none⟩) hlt).trans c2⟩⟩
def OpdC(w:World)(b o:Nat)(x:Lfc.Opd):Prop:=∃k n p ts A c,x.tree=.node k n p ts∧w.cell? ⟨b,o,none⟩=some (.int .i64 k)∧w.cell? ⟨b,o+1,none⟩=some (S n)∧w.cell? ⟨b,o+2,none⟩=some (.int .i64 p)∧w.cell? ⟨b,o+3,none⟩=some (.slice A ts.length c)∧w.cell? ⟨b,o+4,none⟩=some (.bool x.closed)∧TreeV w (.node k n p ts) (.agg #[.int .i64 k,S n,.int .i64 p,.slice A ts.length c])
def OpdsAt(w:World)(A:Option Addr)(s:List Lfc.Opd):Prop:=s≠[]→∃b o,A=some ⟨b,o,none⟩∧b<w.heap.size∧∀i(h:i<s.length),OpdC w b (o+i*5) s[i]
theorem OpdC.below{w w':World}{b o:Nat}{x:Lfc.Opd}(h:OpdC w b o x)(hlt:b<w.heap.size)(hb:Below w.heap.size w w'):OpdC w' b o x:=by
 obtain⟨k,n,p,ts,A,c,e,c0,c1,c2,c3,c4,hT⟩:=h
 exact⟨k,n,p,ts,A,c,e,(hb.cell (p:=⟨b,_,none⟩) hlt).trans c0,(hb.cell (p:=⟨b,_,none⟩) hlt).trans c1,(hb.cell (p:=⟨b,_,none⟩) hlt).trans c2,(hb.cell (p:=⟨b,_,none⟩) hlt).trans c3,(hb.cell (p:=⟨b,_,none⟩) hlt).trans c4,hT.below hb⟩
theorem OpdsAt.below{w w':World}{A:Option Addr}{s:List Lfc.Opd}(h:OpdsAt w A s)(hb:Below w.heap.size w w'):OpdsAt w' A s:=fun hne=>by
 obtain⟨b,o,hA,hlt,hc⟩:=h hne
 exact⟨b,o,hA,Nat.lt_of_lt_of_le hlt hb.size,fun i hi=>(hc i hi).below hlt hb⟩
theorem OpdsAt.at_{w:World}{A:Option Addr}{s:List Lfc.Opd}(h:OpdsAt w A s){i:Nat}(hi:i<s.length):∃b o k n p ts B c,A=some ⟨b,o,none⟩∧b<w.heap.size∧s[i].tree=.node k n p ts∧w.cell? ⟨b,o+i*5,none⟩=some (.int .i64 k)∧w.cell? ⟨b,o+i*5+1,none⟩=some (S n)∧w.cell? ⟨b,o+i*5+2,none⟩=some (.int .i64 p)∧w.cell? ⟨b,o+i*5+3,none⟩=some (.slice B ts.length c)∧w.cell? ⟨b,o+i*5+4,none⟩=some (.bool s[i].closed)∧TreeV w (.node k n p ts) (.agg #[.int .i64 k,S n,.int .i64 p,.slice B ts.length c]):=by
 obtain⟨b,o,hA,hlt,hc⟩:=h (by intro h0;rw[h0] at hi;simp at hi)
 obtain⟨k,n,p,ts,B,c,e,c0,c1,c2,c3,c4,hT⟩:=hc i hi
 exact⟨b,o,k,n,p,ts,B,c,hA,hlt,e,c0,c1,c2,c3,c4,hT⟩
theorem OpdsAt.part{w:World}{b o:Nat}{s:List Lfc.Opd}(h:OpdsAt w (some ⟨b,o,none⟩) s)(i j:Nat):OpdsAt w (some ⟨b,o+i*5,none⟩) ((s.take j).drop i):=fun hne=>by
 have hl:i<(s.take j).length:=by
  rcases Nat.lt_or_ge i (s.take j).length with h1 | h1
  ·exact h1
  ·exact absurd (List.drop_eq_nil_of_le h1) hne
 rw[List.length_take] at hl
 obtain⟨b',o',hA,hlt,hc⟩:=h (by intro h0;rw[h0] at hl;simp at hl)
 cases hA
 refine⟨b,o+i*5,rfl,hlt,fun k hk=>?_⟩
 rw[List.length_drop,List.length_take] at hk
 have:=hc (i+k) (by omega)
 rw[show o+i*5+k*5=o+(i+k)*5 by omega]
 simpa using this
def OpdV(w:World)(x:Lfc.Opd)(v:Value):Prop:=∃k n p ts A c,x.tree=.node k n p ts∧v=.agg #[.int .i64 k,S n,.int .i64 p,.slice A ts.length c,.bool x.closed]∧TreeV w (.node k n p ts) (.agg #[.int .i64 k,S n,.int .i64 p,.slice A ts.length c])
theorem OpdV.below{w w':World}{x:Lfc.Opd}{v:Value}(h:OpdV w x v)(hb:Below w.heap.size w w'):OpdV w' x v:=by
 obtain⟨k,n,p,ts,A,c,e,rfl,hT⟩:=h
 exact⟨k,n,p,ts,A,c,e,rfl,hT.below hb⟩
end Go.Proofs.YthajalgkjonaaaaGreatDoor
