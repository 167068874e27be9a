/- Parts of the proof that no input makes the law false: Build, RawFmt, RawFmt2, RawFmt3, RawFmt4, Oth, RawTape, TreeP, OpMem, OpA, OpA2. -/
import Derived.Laws.AppendOwn
import Derived.Laws.OwnMore
import Derived.Test.YthajalgkjonaaaaGreatDoorBxAC
set_option linter.unusedVariables false
set_option linter.unusedSimpArgs false
set_option maxRecDepth 100000
set_option maxHeartbeats 32000000
namespace Go.Proofs.YthajalgkjonaaaaGreatDoor
section
open Go.RowKit Go.Shelf
theorem info_builder:∃j,Tryz.prog.info? 78=some j∧j.size=2:=by
 obtain⟨j,hj,hs⟩:=Option.map_eq_some_iff.1 (show(Tryz.prog.info? 78).map (·.size)=some 2 by kernel_rfl);exact⟨j,hj,hs⟩
theorem under_ptr:Tryz.prog.underlying 76=some (.pointer 78):=by kernel_rfl
theorem copyCheck_used(b:Nat)(w:World)(h0:zc w b 0 (.pointer (some ⟨b,0,none⟩))) :
  Calls Tryz.prog 55 #[.pointer (some ⟨b,0,none⟩)] w fun e w'=>e=.returned (.tuple #[])/\w'=w:=by
 obtain⟨j,hj,hjs⟩:=info_builder;go_enter Tryz.func55,Tryz.ntmps55;go_wp2;rw[Lib.run_neq_ptr_same w _ under_ptr hj];go_wp2
 go_end0
 exact⟨rfl,rfl⟩
theorem copyCheck_fresh(b:Nat)(w:World)(h0:zc w b 0 (.pointer none))(hsh:w.shape? b=some (78,2))(hfz:w.frozen? ⟨b,0,none⟩=false) :
  Calls Tryz.prog 55 #[.pointer (some ⟨b,0,none⟩)] w fun e w'=>e=.returned (.tuple #[])/\w'=w.setCell ⟨b,0,none⟩ (.pointer (some ⟨b,0,none⟩)):=by
 obtain⟨j,hj,hjs⟩:=info_builder;have t94:Tryz.prog.underlying 163=some .unsafePointer:=by kernel_rfl
 go_enter Tryz.func55,Tryz.ntmps55;go_wp2;rw[Lib.run_to_unsafe w ⟨b,0,none⟩ under_ptr t94 hj (by rw[hjs];decide) hsh (Nat.zero_lt_succ 1)];simp only[Result.andThen];rw[Oper.upon_value];go_wp2;rw[run_callFunc_extern Tryz.func113 (by kernel_rfl) (by kernel_rfl) (by kernel_rfl) (e:=Extern.AbiNoEscape.same) (by kernel_rfl)];rw[Lib.run_noEscape];simp only[Result.andThen];rw[Oper.upon_value];go_wp2;rw[Lib.run_from_unsafe w ⟨b,0,none⟩ t94 under_ptr hj hsh (by kernel_rfl)];simp only[Result.andThen];rw[Oper.upon_value];go_wp2
 go_end0
 exact⟨rfl,rfl⟩
def Bld(B b:Nat)(l:List UInt8)(w:World):Prop:=Lib.IsBuilderF 78 5 B b (Lib.byteCells l) w
def Kept(b:Nat)(w w':World):Prop:=Lib.OthersKept 5 (some b) w w'
theorem Kept.cells{b:Nat}{w w':World}(h:Kept b w w'){k:Nat}{c:Array Value}{t:TypeId}(hk:w.heap[k]?=some (.cells c t (0,0)))(hb:k≠b)(ht:t≠5):w'.heap[k]?=some (.cells c t (0,0)) :=
 h k _ hk (by simpa using hb) (by intro c' fz e;cases e;exact ht rfl)
theorem copyCheck_any(B b:Nat)(l:List UInt8)(w:World)(h:Bld B b l w) :
  Calls Tryz.prog 55 #[.pointer (some ⟨b,0,none⟩)] w fun e w'=>e=.returned (.tuple #[])∧Lib.BuilderAtF 78 5 B b (.pointer (some ⟨b,0,none⟩)) (Lib.byteCells l) w'∧Below B w w'∧Kept b w w':=by
 rcases h with h | h
 ·refine(copyCheck_fresh b w h.cell0 h.shape h.frozen0).mono ?_;rintro e w'⟨rfl,rfl⟩;exact⟨rfl,h.used _,(zB B w).setCell (p:=⟨b,0,none⟩) h.1 _,(Lib.OthersKept.refl _ _ w).setCell ⟨b,0,none⟩ rfl _⟩
 refine(copyCheck_used b w h.cell0).mono ?_;rintro e w'⟨rfl,rfl⟩;exact⟨rfl,h,zB B _,Lib.OthersKept.refl _ _ _⟩
theorem writeString_any(B b:Nat)(acc l:List UInt8)(w:World)(h:Bld B b acc w)(hlen:acc.length+l.length<=140737488355328)(hBw:B<=w.heap.size) :
  Calls Tryz.prog 28 #[.pointer (some ⟨b,0,none⟩),S l] w fun e w'=>e=.returned (.tuple #[zI l.length,.nilIface])/\Bld B b (acc++l) w'/\Below B w w'/\Kept b w w':=by
 obtain⟨i0,hi,hz0,hz1,hz2⟩:=info_parts (show(Tryz.prog.info? 5).map (fun i=>(i.zero,i.size,i.bytes))=some (some (.int .u8 0),1,1) by kernel_rfl);have t37:Tryz.prog.underlying 68=some (.slice 5):=by kernel_rfl
 have t9:Tryz.prog.underlying 9=some .string:=by kernel_rfl
 have HC:=zH (copyCheck_any B b acc w h);clear h;go_enter Tryz.func28,Tryz.ntmps28;go_wp2_with fail;refine HC.o.mono ?_;rintro e w1⟨rfl,h1,hb1,hk1⟩;obtain⟨hB,v,hbk,hown,hne⟩:=h1;have c0:w1.cell? ⟨b,0,none⟩=some (.pointer (some ⟨b,0,none⟩)):=by rw[zC hbk];rfl
 have c1:w1.cell? ⟨b,1,none⟩=some v:=by rw[zC hbk];rfl
 go_wp2_with (at_builtin;refine Lib.wpList_append_own_stringF _ rfl _ _ 68 9 rfl B 5 i0 t37 t9 hi hz0 hz1 hz2 _ _ _ rfl hown ⟨l.toArray⟩ rfl ?c3 ?c4 ?c5 ?_);case c3=>simp only[Lib.byteCells_length];show acc.length+l.toArray.size<=maxLen;unfold maxLen;simp;omega
 case c4=>simp only[Lib.byteCells_length];show acc.length+l.toArray.size<=_;simp;omega
 case c5=>have:=hb1.size;omega
 intro v' w2 hown' hgrow _;have hlt:b<w1.heap.size:=by
  rcases Nat.lt_or_ge b w1.heap.size with h' | h'
  ·exact h'
  simp[Array.getElem?_eq_none h'] at hbk
 have hb2:w2.heap[b]?=some (.cells #[.pointer (some ⟨b,0,none⟩),v] 78 (0,0)):=by
  rw[hgrow.block b hlt (fun e=>hne e.symm)];exact hbk
 have d0:w2.cell? ⟨b,0,none⟩=some (.pointer (some ⟨b,0,none⟩)):=by rw[zC hb2];rfl
 have d1:w2.cell? ⟨b,1,none⟩=some v:=by rw[zC hb2];rfl
 have f1:w2.frozen? ⟨b,1,none⟩=false:=zF hb2 1;obtain⟨ao,n',cap,rfl⟩:∃ao n' cap,v'=.slice ao n' cap:=by
  rcases hown'.2 with⟨hv,_⟩ | ⟨g,cap,cur,fz,hv,_⟩
  ·exact⟨_,_,_,hv⟩
  exact⟨_,_,_,hv⟩
 have hcells:Lib.byteCells acc++Lib.strCells ⟨l.toArray⟩=Lib.byteCells (acc++l):=by rw[Lib.byteCells_append];rfl
 have hput:=Lib.BuilderAtF.put (T:=78) (e:=5) hB hb2 (bs':=Lib.byteCells (acc++l)) (by rw[hcells] at hown';simpa[Lib.byteCells_length] using hown') (by decide);have hbel:=(hb1.grown hgrow (by have:=hb1.size;omega) (fun k hk=>(hown.lt k hk).1)).setCell (p:=⟨b,1,none⟩) hB (.slice ao n' cap);have hkept:=(hk1.grown hgrow (Lib.ownsRowF_kind hown)).setCell ⟨b,1,none⟩ rfl (.slice ao n' cap);clear hown hown' hgrow hcells;go_wp2_with fail
 go_ret2
 exact⟨rfl,.inr hput,hbel,hkept⟩
theorem string_any(B b:Nat)(l:List UInt8)(w:World)(h:Bld B b l w)(hBw:B≤w.heap.size) :
  Calls Tryz.prog 30 #[.pointer (some ⟨b,0,none⟩)] w fun e w'=>e=.returned (S l)∧Bld B b l w'∧Below B w w'∧Kept b w w' :=
 Any.Builder_String_any_k Tryz.lays169 Tryz.Builder_Extra_169 B b l w h hBw
theorem bld_new(w:World):Bld w.heap.size w.heap.size [] (w.alloc (.cells #[.pointer none,.slice none 0 0] 78)) :=
 .inl ⟨zN _,.slice none 0 0,zW w _,⟨by simp,.inl ⟨rfl,rfl⟩⟩,by simp[Value.ownBlock]⟩
end
section
open Go.RowKit _root_.Lfc
def P(b:Nat):Value:=.pointer (some ⟨b,0,none⟩)
theorem enters_two:∀args w,(callFunc 160 args).run Tryz.prog w=.ok (.enter 160 args) w:=enters_of Tryz.func160 (by kernel_rfl) rfl
theorem enters_binder:∀args w,(callFunc 161 args).run Tryz.prog w=.ok (.enter 161 args) w:=enters_of Tryz.func161 (by kernel_rfl) rfl
theorem enters_write:∀args w,(callFunc 162 args).run Tryz.prog w=.ok (.enter 162 args) w:=enters_of Tryz.func162 (by kernel_rfl) rfl
structure EnvF(w0:World)(b Bq:Nat)(w:World):Prop where
 at_:b=w0.heap.size
 bel:Below w0.heap.size w0 w
 wr:w.heap[b+1]?=some (.cells #[.func (.func 162) #[] #[.pointer (some ⟨Bq,0,none⟩),.pointer (some ⟨b,0,none⟩),.pointer (some ⟨b+2,0,none⟩),.pointer (some ⟨b+3,0,none⟩)]] 114 (0,0))
 tw:w.heap[b+2]?=some (.cells #[.func (.func 160) #[] #[.pointer (some ⟨b,0,none⟩),.pointer (some ⟨b+1,0,none⟩)]] 192 (0,0))
 bi:w.heap[b+3]?=some (.cells #[.func (.func 161) #[] #[.pointer (some ⟨b,0,none⟩),.pointer (some ⟨b+2,0,none⟩)]] 193 (0,0))
theorem EnvF.next{w0 w w':World}{b Bq:Nat}(h:EnvF w0 b Bq w)(hb:Below b w w')(hk:Kept b w w'):EnvF w0 b Bq w' :=
 ⟨h.at_,h.bel.trans (by rw[←h.at_];exact hb),hk.cells h.wr (by omega) (by decide),hk.cells h.tw (by omega) (by decide),hk.cells h.bi (by omega) (by decide)⟩
structure StF(w0:World)(b Bq:Nat)(w:World)(R:Nat)(box:Array Value)(acc:List UInt8)(w':World):Prop where
 bld:Bld b b acc w'
 env:EnvF w0 b Bq w'
 box:w'.heap[R]?=some (.cells box 46 (0,0))
 bel:Below b w w'
 kept:Kept b w w'
 ne:R≠b
 le:b≤w'.heap.size
theorem StF.next{w0 w w1 w2:World}{b Bq R:Nat}{box:Array Value}{acc acc':List UInt8}(h:StF w0 b Bq w R box acc w1)(hd:Bld b b acc' w2)(hb:Below b w1 w2)(hk:Kept b w1 w2):StF w0 b Bq w R box acc' w2 :=
 ⟨hd,h.env.next hb hk,hk.cells h.box h.ne (by decide),h.bel.trans hb,h.kept.trans hk,h.ne,zR h.le hb.size⟩
theorem Bld.lt{B b:Nat}{l:List UInt8}{w:World}(h:Bld B b l w):b<w.heap.size:=by
 rcases h with⟨_,v,hv,_⟩ | ⟨_,v,hv,_⟩
 ·exact zL hv
 exact zL hv
theorem Bld.alloc{B b:Nat}{l:List UInt8}{w:World}(h:Bld B b l w)(o:Obj):Bld B b l (w.alloc o):=Lib.IsBuilderF.alloc h o
theorem Bld.drew{B b:Nat}{l:List UInt8}{w:World}(h:Bld B b l w):Bld B b l w.drew:=h
theorem StF.start{w0 w:World}{b Bq:Nat}{acc:List UInt8}(box:Array Value)(hd:Bld b b acc w)(he:EnvF w0 b Bq w):StF w0 b Bq w w.heap.size box acc (w.alloc (.cells box 46)):=by
 have hlt:=hd.lt;have hb:Below b w (w.alloc (.cells box 46)):=(zB _ _).alloc (by omega) _;have hk:Kept b w (w.alloc (.cells box 46)):=(Lib.OthersKept.refl _ _ w).alloc _;exact⟨hd.alloc _,he.next hb hk,zW w _,hb,hk,by omega,by simp;omega⟩
theorem StF.drew{w0 w w1:World}{b Bq R:Nat}{box:Array Value}{acc:List UInt8}(h:StF w0 b Bq w R box acc w1):StF w0 b Bq w R box acc w1.drew :=
 h.next h.bld.drew (zB _ _).drew (Lib.OthersKept.refl _ _ w1).drew
def WriteUpto(w0:World)(b Bq:Nat)(q:List (List UInt8))(m:Nat):Prop:=∀(t:Raw)(v:Value)(w:World)(acc:List UInt8),t.size≤m→t.form=true→TreeV w0 t v→EnvF w0 b Bq w→Bld b b acc w→acc.length+(t.text q).length≤140737488355328 →
  Calls Tryz.prog 162 #[v,.pointer (some ⟨Bq,0,none⟩),.pointer (some ⟨b,0,none⟩),.pointer (some ⟨b+2,0,none⟩),.pointer (some ⟨b+3,0,none⟩)] w fun e w'=>e=.returned (.tuple #[])∧Bld b b (acc++t.text q) w'∧Below b w w'∧Kept b w w'
theorem two_any(w0:World)(b Bq:Nat)(q:List (List UInt8))(m:Nat)(ih:WriteUpto w0 b Bq q m)(k p:Int)(n:List UInt8)(ts:List Raw)(v:Value)(w:World)(acc o mid en:List UInt8)
  (hsz:Raw.sizes ts<=m) (hf:Raw.forms ts=true) (hl:ts.length=1\/ts.length=2) (hv:TreeV w0 (.node k n p ts) v) (henv:EnvF w0 b Bq w) (hbld:Bld b b acc w) (hbd:acc.length+(twoText o mid en (Raw.texts q ts)).length<=140737488355328) :
  Calls Tryz.prog 160 #[v,S o,S mid,S en,.pointer (some ⟨b,0,none⟩),.pointer (some ⟨b+1,0,none⟩)] w fun e w'=>e=.returned (.tuple #[])/\Bld b b (acc++twoText o mid en (Raw.texts q ts)) w'/\Below b w w'/\Kept b w w':=by
 have he:=enters_write;obtain⟨A,c,rfl,hc,hA⟩:=hv.open_;have IH:=zH ih;have s0:=StF.start (zT k n p A ts c) hbld henv;clear ih hv henv hbld
 match ts,hl with
 |[a],_ =>
  simp only[Raw.texts,twoText,Raw.sizes,Raw.forms,Bool.and_true,Zq,List.length_singleton,Nat.add_zero] at *;obtain⟨B,O,k1,n1,p1,xs,B1,c1,rfl,hb,ht,d0,d1,d2,d3,hcu,hB,hT⟩:=hA.at_ (i:=0) (by simp);simp only[List.getElem_cons_zero,Nat.zero_mul,Nat.add_zero] at hT ht d0 d1 d2 d3;clear ht hB hA;have H0:=zH s0;clear s0;go_enter Tryz.func160,Tryz.ntmps160;go_wp2_with fail;refine(writeString_any b b acc o _ H0.o.bld (by omega) H0.o.le).mono ?_;rintro e w1⟨rfl,h1,hb1,hk1⟩;have H1:=zH (H0.o.next h1 hb1 hk1);clear h1 hb1 hk1;have hRf:=zC H1.o.box 3;have hWf:=cell_of_one H1.o.env.wr;have f0:=(H1.o.env.bel.cell (p:=⟨B,_,none⟩) hb).trans d0;have f1:=(H1.o.env.bel.cell (p:=⟨B,_,none⟩) hb).trans d1;have f2:=(H1.o.env.bel.cell (p:=⟨B,_,none⟩) hb).trans d2;have f3:=(H1.o.env.bel.cell (p:=⟨B,_,none⟩) hb).trans d3;go_wp2_with fail;have hzw1:IntKind.i64.wrap 0=0:=by decide
  refine Zs 9 ?_;simp only[Zc,List.take_zero,List.drop_succ_cons,List.drop_zero];change wpStill Tryz.prog _ w1.drew _ _ _;repeat still_step
  try refine wpStill_nil ?_
  change wpList _ _ _ _ _ w1.drew;go_wp2_with fail;refine(IH.o a _ w1.drew (acc++o) hsz hf hT H1.o.drew.env H1.o.drew.bld (by simp only[Zq];omega)).mono ?_;rintro e w2⟨rfl,h2,hb2,hk2⟩;have H2:=zH (H1.o.drew.next h2 hb2 hk2);clear h2 hb2 hk2;go_wp2_with fail;refine(writeString_any b b _ en _ H2.o.bld (by simp only[Zq];omega) H2.o.le).mono ?_;rintro e w3⟨rfl,h3,hb3,hk3⟩;have H3:=zH (H2.o.next h3 hb3 hk3);clear h3 hb3 hk3;go_wp2_with fail
  go_end0
  exact⟨rfl,by simpa[List.append_assoc] using H3.o.bld,H3.o.bel,H3.o.kept⟩
 |[a,a'],_ =>
  simp only[Raw.texts,twoText,Raw.sizes,Raw.forms,Bool.and_true,Za,Zq,List.length_cons,List.length_nil,Nat.zero_add,Nat.reduceAdd,Nat.add_zero] at *;obtain⟨hfa,hfa'⟩:=hf;obtain⟨B,O,k1,n1,p1,xs,B1,c1,rfl,hb,ht,d0,d1,d2,d3,hcu,hB,hT⟩:=hA.at_ (i:=0) (by simp);obtain⟨B',O',k2,n2,p2,ys,B2,c2,hBO,hb',ht',e0,e1,e2,e3,hcu',hB',hT'⟩:=hA.at_ (i:=1) (by simp);simp only[List.getElem_cons_zero,List.getElem_cons_succ,Nat.zero_mul,Nat.one_mul,Nat.add_zero] at hT ht d0 d1 d2 d3 hT' ht' e0 e1 e2 e3;cases hBO;clear ht hB hA ht' hB' hb';have H0:=zH s0;clear s0;go_enter Tryz.func160,Tryz.ntmps160;go_wp2_with fail;refine(writeString_any b b acc o _ H0.o.bld (by omega) H0.o.le).mono ?_;rintro e w1⟨rfl,h1,hb1,hk1⟩;have H1:=zH (H0.o.next h1 hb1 hk1);clear h1 hb1 hk1;have hRf:=zC H1.o.box 3;have hWf:=cell_of_one H1.o.env.wr;have f0:=(H1.o.env.bel.cell (p:=⟨B,_,none⟩) hb).trans d0;have f1:=(H1.o.env.bel.cell (p:=⟨B,_,none⟩) hb).trans d1;have f2:=(H1.o.env.bel.cell (p:=⟨B,_,none⟩) hb).trans d2;have f3:=(H1.o.env.bel.cell (p:=⟨B,_,none⟩) hb).trans d3;go_wp2_with fail;have hzw1:IntKind.i64.wrap 0=0:=by decide
  refine Zs 5 ?_;simp only[Zc,List.take_zero,List.drop_succ_cons,List.drop_zero];change wpStill Tryz.prog _ w1.drew _ _ _;repeat still_step
  try refine wpStill_nil ?_
  change wpList _ _ _ _ _ w1.drew;go_wp2_with fail;refine(IH.o a _ w1.drew (acc++o) (by omega) hfa hT H1.o.drew.env H1.o.drew.bld (by simp only[Zq];omega)).mono ?_;rintro e w2⟨rfl,h2,hb2,hk2⟩;have H2:=zH (H1.o.drew.next h2 hb2 hk2);clear h2 hb2 hk2;go_wp2_with fail;refine(writeString_any b b _ mid _ H2.o.bld (by simp only[Zq];omega) H2.o.le).mono ?_;rintro e w3⟨rfl,h3,hb3,hk3⟩;have H3:=zH (H2.o.next h3 hb3 hk3);clear h3 hb3 hk3;have hRg:=zC H3.o.box 3;have hWg:=cell_of_one H3.o.env.wr;have g0:=(H3.o.env.bel.cell (p:=⟨B,_,none⟩) hb).trans e0;have g1:=(H3.o.env.bel.cell (p:=⟨B,_,none⟩) hb).trans e1;have g2:=(H3.o.env.bel.cell (p:=⟨B,_,none⟩) hb).trans e2;have g3:=(H3.o.env.bel.cell (p:=⟨B,_,none⟩) hb).trans e3;go_wp2_with fail;have hzw3:IntKind.i64.wrap 1=1:=by decide
  refine Zs 9 ?_;simp only[Zc,List.take_zero,List.drop_succ_cons,List.drop_zero];change wpStill Tryz.prog _ w3.drew _ _ _;repeat still_step
  try refine wpStill_nil ?_
  change wpList _ _ _ _ _ w3.drew;go_wp2_with fail;refine(IH.o a' _ w3.drew _ (by omega) hfa' hT' H3.o.drew.env H3.o.drew.bld (by simp only[Zq];omega)).mono ?_;rintro e w4⟨rfl,h4,hb4,hk4⟩;have H4:=zH (H3.o.drew.next h4 hb4 hk4);clear h4 hb4 hk4;go_wp2_with fail;refine(writeString_any b b _ en _ H4.o.bld (by simp only[Zq];omega) H4.o.le).mono ?_;rintro e w5⟨rfl,h5,hb5,hk5⟩;have H5:=zH (H4.o.next h5 hb5 hk5);clear h5 hb5 hk5;go_wp2_with fail
  go_end0
  exact⟨rfl,by simpa[List.append_assoc] using H5.o.bld,H5.o.bel,H5.o.kept⟩
 |[],h=>simp at h
 |_ :: _ :: _ :: _,h=>simp at h
theorem bcat(a b:List UInt8):(⟨a.toArray⟩ ++ ⟨b.toArray⟩:ByteArray)=⟨(a++b).toArray⟩:=by
 apply ByteArray.ext;simp
theorem binder_any(w0:World)(b Bq:Nat)(q:List (List UInt8))(m:Nat)(ih:WriteUpto w0 b Bq q m)(k p:Int)(n:List UInt8)(ts:List Raw)(v:Value)(w:World)(acc o en:List UInt8)
  (hsz:Raw.sizes ts<=m) (hf:Raw.forms ts=true) (hl:ts.length=1\/ts.length=2) (hv:TreeV w0 (.node k n p ts) v) (henv:EnvF w0 b Bq w) (hbld:Bld b b acc w) (hbd:acc.length+(bindText n o en (Raw.texts q ts)).length<=140737488355328) :
  Calls Tryz.prog 161 #[v,S o,S en,.pointer (some ⟨b,0,none⟩),.pointer (some ⟨b+2,0,none⟩)] w fun e w'=>e=.returned (.tuple #[])/\Bld b b (acc++bindText n o en (Raw.texts q ts)) w'/\Below b w w'/\Kept b w w':=by
 have he:=enters_two;have HT:=zH (two_any w0 b Bq q m ih k p n ts v);have HV:=zH hv;obtain⟨A,c,rfl,hc,hA⟩:=hv.open_;have s0:=StF.start (zT k n p A ts c) hbld henv;clear ih hv henv hbld hA
 match ts,hl with
 |[a],hl =>
  simp only[Raw.texts,twoText,bindText,Zq,List.length_singleton] at *;have H0:=zH s0;clear s0;have hcat1:(⟨#[40]⟩:ByteArray) ++ ⟨o.toArray⟩=⟨([40]++o).toArray⟩:=bcat [40] o;have hcat2:(⟨en.toArray⟩:ByteArray) ++ ⟨#[32]⟩=⟨(en++[32]).toArray⟩:=bcat en [32];go_enter Tryz.func161,Tryz.ntmps161;go_wp2_with fail;refine(writeString_any b b acc _ _ H0.o.bld (by simp only[Zq,List.length_cons,List.length_nil];omega) H0.o.le).mono ?_;rintro e w1⟨rfl,h1,hb1,hk1⟩;have H1:=zH (H0.o.next h1 hb1 hk1);clear h1 hb1 hk1;have hR3:=zC H1.o.box 3;go_wp2_with fail;refine(writeString_any b b _ _ _ H1.o.bld (by simp only[Zq,List.length_cons,List.length_nil];omega) H1.o.le).mono ?_;rintro e w2⟨rfl,h2,hb2,hk2⟩;have H2:=zH (H1.o.next h2 hb2 hk2);clear h2 hb2 hk2 hR3;have hR0:=zC H2.o.box 0;have hR1:=zC H2.o.box 1;have hR2:=zC H2.o.box 2;have hR3:=zC H2.o.box 3;have hW:=cell_of_one H2.o.env.tw;go_wp2_with fail;refine(HT.o w2 _ [] [] [41] hsz hf (by simp) HV.o H2.o.env H2.o.bld (by simp only[Zq,List.length_cons,List.length_nil];omega)).mono ?_;rintro e w3⟨rfl,h3,hb3,hk3⟩;have H3:=zH (H2.o.next h3 hb3 hk3);clear h3 hb3 hk3;go_wp2_with fail;refine Zb (results_none rfl _ _ _) ?_;exact⟨rfl,by simpa[List.append_assoc] using H3.o.bld,H3.o.bel,H3.o.kept⟩
 |[a,a'],hl =>
  simp only[Raw.texts,twoText,bindText,Zq,List.length_cons,List.length_nil,Nat.zero_add,Nat.reduceAdd] at *;have H0:=zH s0;clear s0;have hcat1:(⟨#[40]⟩:ByteArray) ++ ⟨o.toArray⟩=⟨([40]++o).toArray⟩:=bcat [40] o;have hcat2:(⟨en.toArray⟩:ByteArray) ++ ⟨#[32]⟩=⟨(en++[32]).toArray⟩:=bcat en [32];go_enter Tryz.func161,Tryz.ntmps161;go_wp2_with fail;refine(writeString_any b b acc _ _ H0.o.bld (by simp only[Zq,List.length_cons,List.length_nil];omega) H0.o.le).mono ?_;rintro e w1⟨rfl,h1,hb1,hk1⟩;have H1:=zH (H0.o.next h1 hb1 hk1);clear h1 hb1 hk1;have hR0:=zC H1.o.box 0;have hR1:=zC H1.o.box 1;have hR2:=zC H1.o.box 2;have hR3:=zC H1.o.box 3;have hW:=cell_of_one H1.o.env.tw;go_wp2_with fail;refine(HT.o w1 _ [58] _ [41] hsz hf (by simp) HV.o H1.o.env H1.o.bld (by simp only[Zq,List.length_cons,List.length_nil];omega)).mono ?_;rintro e w3⟨rfl,h3,hb3,hk3⟩;have H3:=zH (H1.o.next h3 hb3 hk3);clear h3 hb3 hk3;go_wp2_with fail
  go_end0
  exact⟨rfl,by simpa[List.append_assoc] using H3.o.bld,H3.o.bel,H3.o.kept⟩
 |[],h=>simp at h
 |_ :: _ :: _ :: _,h=>simp at h
def QuoteAt(w0:World)(Bq:Nat)(q:List (List UInt8)):Prop:=Bq<w0.heap.size∧q.length≤1000000000∧∃A c,w0.cell? ⟨Bq,0,none⟩=some (.slice A q.length c)∧NamesAt w0 A q
theorem formed_cases{k:Int}{n:List UInt8}{m:Nat}(h:formed k n m=true) :
  ((k=1∨k=2∨k=3∨k=4)∧m=0)∨((k=5∨k=6∨k=9)∧m=2)∨((k=7∨k=8)∧(m=1∨m=2)):=by
 unfold formed at h;split at h
 ·simp at h;omega
 split at h
 ·simp at h;omega
 split at h
 ·simp at h;omega
 split at h
 ·simp at h;omega
 cases h
theorem write_upto(w0:World)(b Bq:Nat)(q:List (List UInt8))(hq:QuoteAt w0 Bq q)(m:Nat):WriteUpto w0 b Bq q m:=by
 induction m with
 |zero=>intro t v w acc h _ _ _ _;have:=t.size_pos;omega
 |succ m ih =>
  intro t v w acc hsz hform hv henv hbld hbd;obtain⟨k,n,p,ts⟩:=t;simp only[Raw.size] at hsz;rw[Raw.form,Za] at hform;obtain⟨hfd,hfs⟩:=hform;have hn:=hv.name_le;have hk:=formed_cases hfd;clear hfd;simp only[Raw.text] at *;have e1:=enters_two;have e2:=enters_binder;have HT:=zH (fun W A o mid en=>two_any w0 b Bq q m ih k p n ts v W A o mid en (by omega) hfs);have HB:=zH (fun W A o en=>binder_any w0 b Bq q m ih k p n ts v W A o en (by omega) hfs);have HV:=zH hv;obtain⟨A,c,rfl,hc,hA⟩:=hv.open_;have H0:=zH (StF.start (zT k n p A ts c) hbld henv);have hW:=cell_of_one H0.o.env.tw;have hB:=cell_of_one H0.o.env.bi;clear ih hv henv hbld hA;obtain⟨hBq,hql,Aq,cq,hqc,hqn⟩:=hq;have hq1:=(H0.o.env.bel.cell (p:=⟨Bq,0,none⟩) hBq).trans hqc;have HN:=zH (contains_any q n Aq cq _ hql (hqn.below H0.o.env.bel));clear hqn hqc hBq hql;rcases hk with⟨rfl | rfl | rfl | rfl,hm⟩ | ⟨rfl | rfl | rfl,hm⟩ | ⟨rfl | rfl,hm⟩
  ·have HX:=zH (show putText q 1 n (Raw.texts q ts)=if n∈q then [40]++n++[41] else n from rfl);rw[HX.o] at hbd ⊢;clear hm HX;by_cases hmem:n∈q
   ·rw[Zt hmem] at HN;rw[if_pos hmem] at hbd ⊢;have hcat1:(⟨#[40]⟩:ByteArray) ++ ⟨n.toArray⟩=⟨([40]++n).toArray⟩:=bcat [40] n;have hcat2:(⟨([40]++n).toArray⟩:ByteArray) ++ ⟨#[41]⟩=⟨([40]++n++[41]).toArray⟩:=bcat ([40]++n) [41];clear hmem;go_enter Tryz.func162,Tryz.ntmps162;go_wp2_with fail;refine HN.o.mono ?_;rintro e w1⟨rfl,rfl⟩;go_wp2_with fail;refine(writeString_any b b acc ([40]++n++[41]) _ H0.o.bld hbd H0.o.le).mono ?_;rintro e w1⟨rfl,h1,hb1,hk1⟩;have H1:=zH (H0.o.next h1 hb1 hk1);clear h1 hb1 hk1;go_wp2_with fail;refine Zb (results_none rfl _ _ _) ?_;exact⟨rfl,H1.o.bld,H1.o.bel,H1.o.kept⟩
   rw[Zu hmem] at HN;rw[if_neg hmem] at hbd ⊢;clear hmem;go_enter Tryz.func162,Tryz.ntmps162;go_wp2_with fail;refine HN.o.mono ?_;rintro e w1⟨rfl,rfl⟩;go_wp2_with fail;refine(writeString_any b b acc n _ H0.o.bld hbd H0.o.le).mono ?_;rintro e w1⟨rfl,h1,hb1,hk1⟩;have H1:=zH (H0.o.next h1 hb1 hk1);clear h1 hb1 hk1;go_wp2_with fail
   go_end0
   exact⟨rfl,H1.o.bld,H1.o.bel,H1.o.kept⟩
  ·have HX:=zH (show putText q 2 n (Raw.texts q ts)=[64]++n from rfl);rw[HX.o] at hbd ⊢;clear hm HX;have hcat1:(⟨#[64]⟩:ByteArray) ++ ⟨n.toArray⟩=⟨([64]++n).toArray⟩:=bcat [64] n;go_enter Tryz.func162,Tryz.ntmps162;go_wp2_with fail;refine(writeString_any b b acc _ _ H0.o.bld (by simp only[Zq,List.length_cons,List.length_nil] at hbd ⊢;omega) H0.o.le).mono ?_;rintro e w1⟨rfl,h1,hb1,hk1⟩;have H1:=zH (H0.o.next h1 hb1 hk1);clear h1 hb1 hk1;go_wp2_with fail
   go_end0
   exact⟨rfl,H1.o.bld,H1.o.bel,H1.o.kept⟩
  ·have HX:=zH (show putText q 3 n (Raw.texts q ts)=[95] from rfl);rw[HX.o] at hbd ⊢;clear hm HX;go_enter Tryz.func162,Tryz.ntmps162;go_wp2_with fail;refine(writeString_any b b acc ([95]) _ H0.o.bld (by simp only[Zq,List.length_cons,List.length_nil] at hbd ⊢;omega) H0.o.le).mono ?_;rintro e w1⟨rfl,h1,hb1,hk1⟩;have H1:=zH (H0.o.next h1 hb1 hk1);clear h1 hb1 hk1;go_wp2_with fail
   go_end0
   exact⟨rfl,H1.o.bld,H1.o.bel,H1.o.kept⟩
  ·have HX:=zH (show putText q 4 n (Raw.texts q ts)=[116,121,112,101] from rfl);rw[HX.o] at hbd ⊢;clear hm HX;go_enter Tryz.func162,Tryz.ntmps162;go_wp2_with fail;refine(writeString_any b b acc ([116,121,112,101]) _ H0.o.bld (by simp only[Zq,List.length_cons,List.length_nil] at hbd ⊢;omega) H0.o.le).mono ?_;rintro e w1⟨rfl,h1,hb1,hk1⟩;have H1:=zH (H0.o.next h1 hb1 hk1);clear h1 hb1 hk1;go_wp2_with fail
   go_end0
   exact⟨rfl,H1.o.bld,H1.o.bel,H1.o.kept⟩
  ·have HX:=zH (show putText q 5 n (Raw.texts q ts)=twoText [40] [32] [41] (Raw.texts q ts) from rfl);rw[HX.o] at hbd ⊢;have HM:=zH hm;clear hm HX;go_enter Tryz.func162,Tryz.ntmps162;go_wp2_with fail;refine(HT.o _ acc [40] [32] [41] (.inr HM.o) HV.o H0.o.env H0.o.bld hbd).mono ?_;rintro e w1⟨rfl,h1,hb1,hk1⟩;have H1:=zH (H0.o.next h1 hb1 hk1);clear h1 hb1 hk1;go_wp2_with fail
   go_end0
   exact⟨rfl,H1.o.bld,H1.o.bel,H1.o.kept⟩
  ·have HX:=zH (show putText q 6 n (Raw.texts q ts)=twoText [40] [32,45,62,32] [41] (Raw.texts q ts) from rfl);rw[HX.o] at hbd ⊢;have HM:=zH hm;clear hm HX;go_enter Tryz.func162,Tryz.ntmps162;go_wp2_with fail;refine(HT.o _ acc [40] [32,45,62,32] [41] (.inr HM.o) HV.o H0.o.env H0.o.bld hbd).mono ?_;rintro e w1⟨rfl,h1,hb1,hk1⟩;have H1:=zH (H0.o.next h1 hb1 hk1);clear h1 hb1 hk1;go_wp2_with fail
   go_end0
   exact⟨rfl,H1.o.bld,H1.o.bel,H1.o.kept⟩
  ·have HX:=zH (show putText q 9 n (Raw.texts q ts)=twoText [40] [32,58,32] [41] (Raw.texts q ts) from rfl);rw[HX.o] at hbd ⊢;have HM:=zH hm;clear hm HX;go_enter Tryz.func162,Tryz.ntmps162;go_wp2_with fail;refine(HT.o _ acc [40] [32,58,32] [41] (.inr HM.o) HV.o H0.o.env H0.o.bld hbd).mono ?_;rintro e w1⟨rfl,h1,hb1,hk1⟩;have H1:=zH (H0.o.next h1 hb1 hk1);clear h1 hb1 hk1;go_wp2_with fail
   go_end0
   exact⟨rfl,H1.o.bld,H1.o.bel,H1.o.kept⟩
  ·have HX:=zH (show putText q 7 n (Raw.texts q ts)=bindText n [123] [125] (Raw.texts q ts) from rfl);rw[HX.o] at hbd ⊢;have HM:=zH hm;clear hm HX;go_enter Tryz.func162,Tryz.ntmps162;go_wp2_with fail;refine(HB.o _ acc [123] [125] HM.o HV.o H0.o.env H0.o.bld hbd).mono ?_;rintro e w1⟨rfl,h1,hb1,hk1⟩;have H1:=zH (H0.o.next h1 hb1 hk1);clear h1 hb1 hk1;go_wp2_with fail
   go_end0
   exact⟨rfl,H1.o.bld,H1.o.bel,H1.o.kept⟩
  have HX:=zH (show putText q 8 n (Raw.texts q ts)=bindText n [91] [93] (Raw.texts q ts) from rfl);rw[HX.o] at hbd ⊢;have HM:=zH hm;clear hm HX;go_enter Tryz.func162,Tryz.ntmps162;go_wp2_with fail;refine(HB.o _ acc [91] [93] HM.o HV.o H0.o.env H0.o.bld hbd).mono ?_;rintro e w1⟨rfl,h1,hb1,hk1⟩;have H1:=zH (H0.o.next h1 hb1 hk1);clear h1 hb1 hk1;go_wp2_with fail
  go_end0
  exact⟨rfl,H1.o.bld,H1.o.bel,H1.o.kept⟩
end
end Go.Proofs.YthajalgkjonaaaaGreatDoor
namespace Lfc
def Raw.fmt(q:List (List UInt8))(t:Raw):List UInt8:=if t.wf=0 then t.text q else []
theorem wf_zero{t:Raw}(h:t.wf=0):t.form=true∧t.size≤4096∧t.depth≤128:=by
 unfold Raw.wf at h;split at h
 ·cases h
 rename_i h1;split at h
 ·cases h
 rename_i h2;exact⟨by simpa using h1,by omega,by omega⟩
end Lfc
namespace Go.Proofs.YthajalgkjonaaaaGreatDoor
section
open Go.RowKit _root_.Lfc
theorem heap_alloc_old(w:World)(o:Obj)(k:Nat)(x:Obj)(h:w.heap[k]?=some x):(w.alloc o).heap[k]?=some x :=
 (zA w o k (zL h)).trans h
theorem fmtEnv(w:World)(Bq:Nat):∃w4,(((w.alloc (.cells #[.pointer none,.slice none 0 0] 78)).alloc
   (.cells #[.func (.func 162) #[] #[.pointer (some ⟨Bq,0,none⟩),.pointer (some ⟨w.heap.size,0,none⟩),.pointer (some ⟨w.heap.size+1+1,0,none⟩),.pointer (some ⟨w.heap.size+1+1+1,0,none⟩)]] 114)).alloc
   (.cells #[.func (.func 160) #[] #[.pointer (some ⟨w.heap.size,0,none⟩),.pointer (some ⟨w.heap.size+1,0,none⟩)]] 192)).alloc
   (.cells #[.func (.func 161) #[] #[.pointer (some ⟨w.heap.size,0,none⟩),.pointer (some ⟨w.heap.size+1+1,0,none⟩)]] 193)=w4 ∧
  EnvF w w.heap.size Bq w4∧Bld w.heap.size w.heap.size [] w4∧Below w.heap.size w w4∧w4.heap.size=w.heap.size+4:=by
 refine⟨_,rfl,⟨rfl,?_,?_,?_,?_⟩,?_,?_,by simp⟩
 ·exact((((zB _ _).alloc (zN _) _).alloc (by simp) _).alloc (by simp;omega) _).alloc (by simp;omega) _
 ·refine heap_alloc_old _ _ _ _ (heap_alloc_old _ _ _ _ ?_);have:=zW (w.alloc (.cells #[.pointer none,.slice none 0 0] 78)) (.cells #[.func (.func 162) #[] #[.pointer (some ⟨Bq,0,none⟩),.pointer (some ⟨w.heap.size,0,none⟩),.pointer (some ⟨w.heap.size+1+1,0,none⟩),.pointer (some ⟨w.heap.size+1+1+1,0,none⟩)]] 114);simpa using this
 ·refine heap_alloc_old _ _ _ _ ?_;have:=fun W:World=>zW W (.cells #[.func (.func 160) #[] #[.pointer (some ⟨w.heap.size,0,none⟩),.pointer (some ⟨w.heap.size+1,0,none⟩)]] 192);have h2:=this ((w.alloc (.cells #[.pointer none,.slice none 0 0] 78)).alloc
   (.cells #[.func (.func 162) #[] #[.pointer (some ⟨Bq,0,none⟩),.pointer (some ⟨w.heap.size,0,none⟩),.pointer (some ⟨w.heap.size+1+1,0,none⟩),.pointer (some ⟨w.heap.size+1+1+1,0,none⟩)]] 114))
  simpa using h2
 ·have:=fun W:World=>zW W (.cells #[.func (.func 161) #[] #[.pointer (some ⟨w.heap.size,0,none⟩),.pointer (some ⟨w.heap.size+1+1,0,none⟩)]] 193);have h2:=this (((w.alloc (.cells #[.pointer none,.slice none 0 0] 78)).alloc
   (.cells #[.func (.func 162) #[] #[.pointer (some ⟨Bq,0,none⟩),.pointer (some ⟨w.heap.size,0,none⟩),.pointer (some ⟨w.heap.size+1+1,0,none⟩),.pointer (some ⟨w.heap.size+1+1+1,0,none⟩)]] 114)).alloc
   (.cells #[.func (.func 160) #[] #[.pointer (some ⟨w.heap.size,0,none⟩),.pointer (some ⟨w.heap.size+1,0,none⟩)]] 192))
  simpa using h2
 ·exact(((bld_new w).alloc _).alloc _).alloc _
 exact((((zB _ _).alloc (zN _) _).alloc (by simp) _).alloc (by simp;omega) _).alloc (by simp;omega) _
theorem format_any(t:Raw)(v:Value)(q:List (List UInt8))(Aq:Option Addr)(cq:Nat)(w:World)(hmax:t.size<=1000000000)(hv:TreeV w t v)(hql:q.length<=1000000000)(hq:NamesAt w Aq q) :
  Calls Tryz.prog 109 #[v,.slice Aq q.length cq] w fun e w'=>e=.returned (S (t.fmt q))/\zb w w':=by
 have he:=enters_write;have hshort:=hv.short;obtain⟨A,c,kd,nm,ps,ts,hT,rfl,hc,hA⟩:∃A c kd nm ps ts,t=.node kd nm ps ts/\v=.agg (zT kd nm ps A ts c)/\ts.length<=c/\TreesAt w A ts:=by
  obtain⟨kd,nm,ps,ts⟩:=t;obtain⟨A,c,rfl,hc,hA⟩:=hv.open_;exact⟨A,c,kd,nm,ps,ts,rfl,rfl,hc,hA⟩
 clear hT hA;obtain⟨wa,hwa⟩:∃wa,w.alloc (.cells (zT kd nm ps A ts c) 46)=wa:=⟨_,rfl⟩;have ba:=zG hwa;have sa:wa.heap.size=w.heap.size+1:=by rw[<-hwa];simp
 have hx0:wa.cell? ⟨w.heap.size,0,none⟩=some (zI kd):=by rw[<-hwa];simp
 have hx1:wa.cell? ⟨w.heap.size,1,none⟩=some (S nm):=by rw[<-hwa];simp
 have hx2:wa.cell? ⟨w.heap.size,2,none⟩=some (zI ps):=by rw[<-hwa];simp
 have hx3:wa.cell? ⟨w.heap.size,3,none⟩=some (.slice A ts.length c):=by rw[<-hwa];simp
 obtain⟨w1,hw1⟩:∃w1,wa.alloc (.cells #[.slice Aq q.length cq] 36)=w1:=⟨_,rfl⟩;have b1:=zG hw1;have s1:w1.heap.size=wa.heap.size+1:=by rw[<-hw1];simp
 have hqc:w1.cell? ⟨wa.heap.size,0,none⟩=some (.slice Aq q.length cq):=by rw[<-hw1];simp
 have b01:zb w w1:=ba.trans (b1.mono (by omega));have hy0:=(b1.cell (p:=⟨w.heap.size,0,none⟩) (by simp only;omega)).trans hx0;have hy1:=(b1.cell (p:=⟨w.heap.size,1,none⟩) (by simp only;omega)).trans hx1;have hy2:=(b1.cell (p:=⟨w.heap.size,2,none⟩) (by simp only;omega)).trans hx2;have hy3:=(b1.cell (p:=⟨w.heap.size,3,none⟩) (by simp only;omega)).trans hx3;clear hx0 hx1 hx2 hx3;have HV:=zH (hv.below b01);have HQ:=zH (hq.below b01);clear hq hv;rw[sa] at hqc;by_cases hz:t.wf=0
 ·have hf:t.fmt q=t.text q:=if_pos hz;rw[hf];go_enter Tryz.func109,Tryz.ntmps109;go_upto_region 1 with fail;clear hw1 hwa;go_wp2_with fail;refine(wf_any t _ _ hmax HV.o).mono ?_;rintro e w2⟨rfl,hb2⟩;rw[hz];clear hf;have hs2:=hb2.size;obtain⟨w4,hw4,hE,hB,hb4,hs4⟩:=fmtEnv w2 (w.heap.size+1);go_upto_region 8 with fail;clear hw4;have b4:zb w1 w4:=hb2.trans (hb4.mono hs2);have hz0:=(b4.cell (p:=⟨w.heap.size,0,none⟩) (by simp only;omega)).trans hy0;have hz1:=(b4.cell (p:=⟨w.heap.size,1,none⟩) (by simp only;omega)).trans hy1;have hz2:=(b4.cell (p:=⟨w.heap.size,2,none⟩) (by simp only;omega)).trans hy2;have hz3:=(b4.cell (p:=⟨w.heap.size,3,none⟩) (by simp only;omega)).trans hy3;clear hy0 hy1 hy2 hy3;have hW:=cell_of_one hE.wr;obtain⟨hfm,hsz,_⟩:=wf_zero hz;have hlen:=text_len q 1000000 t hshort;have hlen2:t.size*(1000000+20)<=4096*1000020:=Nat.mul_le_mul_right _ hsz;have HWr:=zH (write_upto w2 w2.heap.size (w.heap.size+1) q ⟨by omega,hql,Aq,cq,(hb2.cell (p:=⟨w.heap.size+1,0,none⟩) (by simp only;omega)).trans hqc,HQ.o.below hb2⟩ t.size t _ w4 [] (zN _) hfm (HV.o.below hb2) hE hB (by simp only[List.length_nil];omega));clear hE hB hlen hlen2 hqc hz;go_wp2_with fail;refine HWr.o.mono ?_;rintro e w5⟨rfl,hB5,hb5,_⟩;have hs5:=hb5.size;go_wp2_with fail;refine(string_any w2.heap.size w2.heap.size _ w5 hB5 (by omega)).mono ?_;rintro e w6⟨rfl,_,hb6,_⟩;go_wp2_with fail;go_ret;exact⟨rfl,b01.trans ((b4.mono (by omega)).trans ((hb5.mono (by omega)).trans (hb6.mono (by omega))))⟩
 have hf:t.fmt q=[]:=if_neg hz;rw[hf];have hg:(t.wf != 0)=true:=by simpa using hz
 clear hf hz;go_enter Tryz.func109,Tryz.ntmps109;go_upto_region 1 with fail;clear hw1 hwa;go_wp2_with fail;refine(wf_any t _ _ hmax HV.o).mono ?_;rintro e w2⟨rfl,hb2⟩;go_wp2_with fail;go_ret;exact⟨rfl,b01.trans (hb2.mono (by omega))⟩
end
section
open Go.RowKit
abbrev Oth(T:Nat)(w w':World):Prop:=w.grownBy w' (some T)
theorem Oth.refl(T:Nat)(w:World):Oth T w w:=⟨rfl,rfl,rfl,zN _,fun _ _ _=>rfl⟩
theorem Oth.trans{T:Nat}{w w1 w2:World}(h:Oth T w w1)(h':Oth T w1 w2):Oth T w w2 :=
 ⟨h'.os.trans h.os,h'.tape.trans h.tape,h'.output.trans h.output,Nat.le_trans h.size h'.size,fun k hk hn=>(h'.block k (Nat.lt_of_lt_of_le hk h.size) hn).trans (h.block k hk hn)⟩
theorem Oth.of_below{T:Nat}{w w':World}(h:Below w.heap.size w w'):Oth T w w':=⟨h.os,h.tape,h.output,h.size,fun k hk _=>h.block k hk⟩
theorem Oth.of_new{T:Nat}{w w1 w2:World}(h:Oth T w w1)(h':Below w.heap.size w1 w2):Oth T w w2 :=
 ⟨h'.os.trans h.os,h'.tape.trans h.tape,h'.output.trans h.output,Nat.le_trans h.size h'.size,fun k hk hn=>(h'.block k hk).trans (h.block k hk hn)⟩
theorem Oth.set{T j:Nat}(w:World)(v:Value):Oth T w (w.setCell ⟨T,j,none⟩ v) :=
 ⟨rfl,rfl,rfl,by simp[World.setCell],fun k _ hk=>Below.heap_setCell _ _ _ _ (fun e=>hk (by simp[e]))⟩
theorem Oth.drew{T:Nat}{w w':World}(h:Oth T w w'):Oth T w w'.drew:=⟨h.os,h.tape,h.output,h.size,h.block⟩
theorem Oth.cell{T:Nat}{w w':World}(h:Oth T w w'){p:Addr}(hp:p.block<w.heap.size)(hn:p.block≠T):w'.cell? p=w.cell? p :=
 World.cell?_of_block (h.block _ hp (fun e=>hn (zO e)))
theorem Oth.heap{T:Nat}{w w':World}(h:Oth T w w'){k:Nat}{o:Obj}(hk:w.heap[k]?=some o)(hn:k≠T):w'.heap[k]?=some o :=
 (h.block k (zL hk) (fun e=>hn (zO e))).trans hk
theorem Oth.below{T B:Nat}{w w1 w2:World}(h:Below B w w1)(h':Oth T w1 w2)(hT:B≤T)(hB:B≤w1.heap.size):Below B w w2 :=
 ⟨h'.os.trans h.os,h'.tape.trans h.tape,h'.output.trans h.output,Nat.le_trans h.size h'.size,fun k hk=>(h'.block k (by omega) (fun e=>by have:=zO e;omega)).trans (h.block k hk)⟩
theorem zV{w w' : World}{T j : Nat}{v : Value}(e : w.setCell ⟨T, j, none⟩ v = w') : Oth T w w' := by subst e; exact Oth.set _ _
theorem zE{T : Nat}{w w' : World}(h : Below w.heap.size w w') : Oth T w w' := Oth.of_below h
end
end Go.Proofs.YthajalgkjonaaaaGreatDoor
namespace Lfc
def words:List (List UInt8):=[[97],[98],[78],[77],[43],[42],[126],[33],[110,97,116],[102],[64,120],[116,121,112,101],[]]
theorem words_name(k:Nat)(h:k<10):isName (words.getD k [])=true:=by
 have:∀k:Fin 10,isName (words.getD k.val [])=true:=by decide
 exact this ⟨k,h⟩
theorem words_len(k:Nat):(words.getD k []).length≤4:=by
 by_cases h:k<13
 ·have:∀k:Fin 13,(words.getD k.val []).length≤4:=by decide
  exact this ⟨k,h⟩
 have:words.getD k []=[]:=by rw[List.getD_eq_getElem?_getD,List.getElem?_eq_none (by simp[words];omega)];rfl
 rw[this];simp
end Lfc
namespace Go.Proofs.YthajalgkjonaaaaGreatDoor
section
open Go.RowKit
structure TapeAt(T:Nat)(w:World):Prop where
 t:∃(A:Option Addr)(n c i:Nat),w.heap[T]?=some (.cells #[.slice A n c,.int .i64 (i:Int)] 50 (0,0))∧i≤n∧n≤maxLen∧(0<n→∃b o,A=some ⟨b,o,none⟩∧b<T∧∀k,k<n→∃x,w.cell? ⟨b,o+k,none⟩=some (.int .i64 x))
 words:∃b o c,w.cell? ⟨0,0,none⟩=some (.slice (some ⟨b,o,none⟩) 13 c)∧b<T∧0<T∧∀k,k<13→w.cell? ⟨b,o+k,none⟩=some (S (Lfc.words.getD k []))
theorem TapeAt.lt{T:Nat}{w:World}(h:TapeAt T w):T<w.heap.size:=by
 obtain⟨A,n,c,i,ht,_⟩:=h.t;exact zL ht
theorem TapeAt.below{T:Nat}{w w':World}(h:TapeAt T w)(hb:Below w.heap.size w w'):TapeAt T w':=by
 have hlt:=h.lt;obtain⟨A,n,c,i,ht,hi,hn,hc⟩:=h.t;obtain⟨b,o,cw,h1,h2,h3,h4⟩:=h.words;refine⟨⟨A,n,c,i,(hb.block T hlt).trans ht,hi,hn,fun hp=>?_⟩,⟨b,o,cw,(hb.cell (p:=⟨_,0,none⟩) (by simp only;omega)).trans h1,h2,h3,fun k hk=>(hb.cell (p:=⟨b,o+k,none⟩) (by simp only;omega)).trans (h4 k hk)⟩⟩;obtain⟨b,o,hA,hbT,hx⟩:=hc hp;refine⟨b,o,hA,hbT,fun k hk=>?_⟩;obtain⟨x,hx⟩:=hx k hk;exact⟨x,(hb.cell (p:=⟨b,o+k,none⟩) (by simp only;omega)).trans hx⟩
theorem TapeAt.moved{T:Nat}{w w':World}(h:TapeAt T w)(ho:Oth T w w'){A:Option Addr}{n c i i':Nat}(ht:w.heap[T]?=some (.cells #[.slice A n c,.int .i64 (i:Int)] 50 (0,0)))(ht':w'.heap[T]?=some (.cells #[.slice A n c,.int .i64 (i':Int)] 50 (0,0)))(hi:i'≤n):TapeAt T w':=by
 have hlt:=h.lt;obtain⟨A0,n0,c0,i0,ht0,_,hn,hc⟩:=h.t;rw[ht] at ht0;cases ht0;obtain⟨b,o,cw,h1,h2,h3,h4⟩:=h.words;refine⟨⟨A,n,c,i',ht',hi,hn,fun hp=>?_⟩,⟨b,o,cw,(ho.cell (p:=⟨_,0,none⟩) (by simp only;omega) (by simp only;omega)).trans h1,h2,h3,fun k hk=>(ho.cell (p:=⟨b,o+k,none⟩) (by simp only;omega) (by simp only;omega)).trans (h4 k hk)⟩⟩;obtain⟨b,o,hA,hbT,hx⟩:=hc hp;refine⟨b,o,hA,hbT,fun k hk=>?_⟩;obtain⟨x,hx⟩:=hx k hk;exact⟨x,(ho.cell (p:=⟨b,o+k,none⟩) (by simp only;omega) (by simp only;omega)).trans hx⟩
theorem tapeNext_any(T n:Nat)(w:World)(h0:0<n)(h1:n<=100)(h:TapeAt T w) :
  Calls Tryz.prog 32 #[.pointer (some ⟨T,0,none⟩),zI (n:Int)] w fun e w'=>(∃r:Nat,r<n/\e=.returned (zI (r:Int)))/\TapeAt T w'/\Oth T w w':=by
 obtain⟨A,l,c,i,ht,hi,hl,hc⟩:=h.t;have hT:=h.lt;have H:=zH h;have HT:=zH ht;have ht0:=zC ht 0;have ht1:=zC ht 1;simp at ht0 ht1;have hf1:=zF ht 1;have hl':l<=9223372036854775807:=by unfold maxLen at hl;omega
 clear h ht hl;by_cases hil:i<l
 ·obtain⟨b,o,rfl,hbT,hx⟩:=hc (by omega);obtain⟨x,hx⟩:=hx i hil;clear hc;have hd:decide ((i:Int)≥(l:Int))=false:=by simp;omega
  obtain⟨w1,hw1⟩:∃w1,w.setCell ⟨T,1,none⟩ (zI ((i:Int)+1))=w1:=⟨_,rfl⟩;have o1:Oth T w w1:=zV hw1;have q1:w1.heap[T]?=some (.cells #[.slice (some ⟨b,o,none⟩) l c,zI ((i:Int)+1)] 50 (0,0)):=by
   rw[<-hw1];simp[World.setCell,zM,HT.o]
  have y0:=zC q1 0;have y1:=zC q1 1;simp at y0 y1;have hx1:=(o1.cell (p:=⟨b,o+i,none⟩) (by simp only;omega) (by simp only;omega)).trans hx;go_enter Tryz.func32,Tryz.ntmps32;go_upto_region 1 with fail;refine Zs 9 ?_;simp only[Zc,List.take_zero,List.drop_succ_cons,List.drop_zero];change wpStill Tryz.prog _ w.drew _ _ _;repeat still_step
  try refine wpStill_nil ?_
  change wpList _ _ _ _ _ w.drew;go_upto_region 4 with fail;have hq:=cutI_lt x n h0;clear hw1;have hi2:IntKind.i64.wrap (i:Int)=(i:Int):=Zi _ ⟨by omega,by omega⟩;refine Zs 13 ?_;simp only[Zc,List.take_zero,List.drop_succ_cons,List.drop_zero];change wpStill Tryz.prog _ w1.drew.drew _ _ _;repeat still_step
  still_call (cut_any x n _ h0 (by omega))
  repeat still_step
  try refine wpStill_nil ?_
  change wpList _ _ _ _ _ w1.drew.drew;go_wp2_with fail;go_ret;exact⟨⟨_,hq,rfl⟩,(H.o.moved o1 HT.o (i':=i+1) (by simpa using q1) (by omega)).below (zB _ _).drew.drew,o1.drew.drew⟩
 have hd:decide ((i:Int)≥(l:Int))=true:=by simp;omega
 go_enter Tryz.func32,Tryz.ntmps32;go_upto_region 1 with fail;refine Zs 9 ?_;simp only[Zc,List.take_zero,List.drop_succ_cons,List.drop_zero];change wpStill Tryz.prog _ w.drew _ _ _;repeat still_step
 try refine wpStill_nil ?_
 change wpList _ _ _ _ _ w.drew;go_wp2_with fail;go_ret;exact⟨⟨0,h0,rfl⟩,H.o.below (zB _ _).drew,(Oth.refl _ _).drew⟩
end
section
open Go.RowKit _root_.Lfc
mutual
def TreeP(q:Nat→Prop)(w:World):Raw→Value→Value→Value→Value→Prop
 |.node k n p ts,v0,v1,v2,v3=>v0=.int .i64 k∧v1=S n∧n.length≤1000000∧v2=.int .i64 p∧∃A c,v3=.slice A ts.length c∧ts.length≤c∧(ts≠[]→∃b o,A=some ⟨b,o,none⟩∧b<w.heap.size∧q b∧TreesP q w b ts o)
def TreesP(q:Nat→Prop)(w:World)(b:Nat):List Raw→Nat→Prop
 |[],_=>True
 |t :: r,o=>(∃v0 v1 v2 v3,w.cell? ⟨b,o,none⟩=some v0∧w.cell? ⟨b,o+1,none⟩=some v1∧w.cell? ⟨b,o+2,none⟩=some v2∧w.cell? ⟨b,o+3,none⟩=some v3∧TreeP q w t v0 v1 v2 v3)∧TreesP q w b r (o+4)
end
mutual
theorem TreeP.keep{q q':Nat→Prop}{w w':World}(hk:∀b,q b→b<w.heap.size→w'.heap[b]?=w.heap[b]?)(hs:w.heap.size≤w'.heap.size)(hq:∀b,b<w.heap.size→q b→q' b):∀(t:Raw)(v0 v1 v2 v3:Value),TreeP q w t v0 v1 v2 v3→TreeP q' w' t v0 v1 v2 v3
 |.node k n p ts,v0,v1,v2,v3,h=>by
  rw[TreeP] at h ⊢;obtain⟨h0,h1,hn,h2,A,c,h3,h4,h5⟩:=h;refine⟨h0,h1,hn,h2,A,c,h3,h4,fun hne=>?_⟩;obtain⟨b,o,hA,hlt,hqb,hts⟩:=h5 hne;exact⟨b,o,hA,Zl hlt hs,hq b hlt hqb,TreesP.keep hk hs hq ts b o hlt hqb hts⟩
theorem TreesP.keep{q q':Nat→Prop}{w w':World}(hk:∀b,q b→b<w.heap.size→w'.heap[b]?=w.heap[b]?)(hs:w.heap.size≤w'.heap.size)(hq:∀b,b<w.heap.size→q b→q' b):∀(ts:List Raw)(b o:Nat),b<w.heap.size→q b→TreesP q w b ts o→TreesP q' w' b ts o
 |[],_,_,_,_,_=>by rw[TreesP];trivial
 |t :: r,b,o,hlt,hb,h=>by
  rw[TreesP] at h ⊢;obtain⟨⟨v0,v1,v2,v3,c0,c1,c2,c3,ht⟩,hr⟩:=h;have hc:=fun j=>World.cell?_of_block (a:=⟨b,j,none⟩) (hk b hb hlt);exact⟨⟨v0,v1,v2,v3,(hc _).trans c0,(hc _).trans c1,(hc _).trans c2,(hc _).trans c3,TreeP.keep hk hs hq t v0 v1 v2 v3 ht⟩,TreesP.keep hk hs hq r b (o+4) hlt hb hr⟩
end
mutual
theorem TreeP.toC{q:Nat→Prop}{w:World}:∀(t:Raw)(v0 v1 v2 v3:Value),TreeP q w t v0 v1 v2 v3→TreeC w t v0 v1 v2 v3
 |.node k n p ts,v0,v1,v2,v3,h=>by
  rw[TreeP] at h;rw[TreeC];obtain⟨h0,h1,hn,h2,A,c,h3,h4,h5⟩:=h;refine⟨h0,h1,hn,h2,A,c,h3,h4,fun hne=>?_⟩;obtain⟨b,o,hA,hlt,hqb,hts⟩:=h5 hne;exact⟨b,o,hA,hlt,TreesP.toC ts b o hts⟩
theorem TreesP.toC{q:Nat→Prop}{w:World}:∀(ts:List Raw)(b o:Nat),TreesP q w b ts o→TreesO w b ts o
 |[],_,_,_=>by rw[TreesO];trivial
 |t :: r,b,o,h=>by
  rw[TreesP] at h;rw[TreesO];obtain⟨⟨v0,v1,v2,v3,c0,c1,c2,c3,ht⟩,hr⟩:=h;exact⟨⟨v0,v1,v2,v3,c0,c1,c2,c3,TreeP.toC t v0 v1 v2 v3 ht⟩,TreesP.toC r b (o+4) hr⟩
end
mutual
theorem TreeC.toP{q:Nat→Prop}{w:World}(hq:∀b,b<w.heap.size→q b):∀(t:Raw)(v0 v1 v2 v3:Value),TreeC w t v0 v1 v2 v3→TreeP q w t v0 v1 v2 v3
 |.node k n p ts,v0,v1,v2,v3,h=>by
  rw[TreeC] at h;rw[TreeP];obtain⟨h0,h1,hn,h2,A,c,h3,h4,h5⟩:=h;refine⟨h0,h1,hn,h2,A,c,h3,h4,fun hne=>?_⟩;obtain⟨b,o,hA,hlt,hts⟩:=h5 hne;exact⟨b,o,hA,hlt,hq b hlt,TreesO.toP hq ts b o hts⟩
theorem TreesO.toP{q:Nat→Prop}{w:World}(hq:∀b,b<w.heap.size→q b):∀(ts:List Raw)(b o:Nat),TreesO w b ts o→TreesP q w b ts o
 |[],_,_,_=>by rw[TreesP];trivial
 |t :: r,b,o,h=>by
  rw[TreesO] at h;rw[TreesP];obtain⟨⟨v0,v1,v2,v3,c0,c1,c2,c3,ht⟩,hr⟩:=h;exact⟨⟨v0,v1,v2,v3,c0,c1,c2,c3,TreeC.toP hq t v0 v1 v2 v3 ht⟩,TreesO.toP hq r b (o+4) hr⟩
end
def RowP(q:Nat→Prop)(w:World):List Raw→List Value→Prop
 |[],xs=>xs=[]
 |t :: r,xs=>∃v0 v1 v2 v3 ys,xs=v0 :: v1 :: v2 :: v3 :: ys∧TreeP q w t v0 v1 v2 v3∧RowP q w r ys
theorem RowP.len{q:Nat→Prop}{w:World}:∀{ts:List Raw}{xs:List Value},RowP q w ts xs→xs.length=4*ts.length
 |[],xs,h=>by rw[RowP] at h;subst h;rfl
 |t :: r,xs,h=>by
  rw[RowP] at h;obtain⟨v0,v1,v2,v3,ys,rfl,_,hr⟩:=h;have:=hr.len;simp;omega
theorem RowP.keep{q q':Nat→Prop}{w w':World}(hk:∀b,q b→b<w.heap.size→w'.heap[b]?=w.heap[b]?)(hs:w.heap.size≤w'.heap.size)(hq:∀b,b<w.heap.size→q b→q' b):∀{ts:List Raw}{xs:List Value},RowP q w ts xs→RowP q' w' ts xs
 |[],xs,h=>by rw[RowP] at h ⊢;exact h
 |t :: r,xs,h=>by
  rw[RowP] at h ⊢;obtain⟨v0,v1,v2,v3,ys,rfl,ht,hr⟩:=h;exact⟨v0,v1,v2,v3,ys,rfl,TreeP.keep hk hs hq t _ _ _ _ ht,hr.keep hk hs hq⟩
theorem RowP.append{q:Nat→Prop}{w:World}{us:List Raw}{zs:List Value}(hz:RowP q w us zs):∀{ts:List Raw}{xs:List Value},RowP q w ts xs→RowP q w (ts++us) (xs++zs)
 |[],xs,h=>by rw[RowP] at h;subst h;exact hz
 |t :: r,xs,h=>by
  rw[RowP] at h;obtain⟨v0,v1,v2,v3,ys,rfl,ht,hr⟩:=h;rw[List.cons_append,RowP];exact⟨v0,v1,v2,v3,ys++zs,by simp,ht,RowP.append hz hr⟩
theorem RowP.one{q:Nat→Prop}{w:World}{t:Raw}{v0 v1 v2 v3:Value}(h:TreeP q w t v0 v1 v2 v3):RowP q w [t] [v0,v1,v2,v3]:=⟨v0,v1,v2,v3,[],rfl,h,rfl⟩
def CellsAt(w:World)(b o:Nat)(xs:List Value):Prop:=∀j u,xs[j]?=some u→w.cell? ⟨b,o+j,none⟩=some u
theorem RowP.lie{q:Nat→Prop}{w:World}{b:Nat}:∀{ts:List Raw}{xs:List Value}{o:Nat},RowP q w ts xs→CellsAt w b o xs→TreesP q w b ts o
 |[],_,_,_,_=>by rw[TreesP];trivial
 |t :: r,xs,o,h,hc=>by
  rw[RowP] at h;obtain⟨v0,v1,v2,v3,ys,rfl,ht,hr⟩:=h;rw[TreesP];refine⟨⟨v0,v1,v2,v3,hc 0 _ rfl,hc 1 _ rfl,hc 2 _ rfl,hc 3 _ rfl,ht⟩,hr.lie fun j u hj=>?_⟩;have:=hc (j+4) u (by simpa using hj);rw[show o+4+j=o+(j+4) by omega];exact this
theorem TreesP.row{q:Nat→Prop}{w:World}{b:Nat}:∀{ts:List Raw}{o:Nat},TreesP q w b ts o→∃xs,RowP q w ts xs∧CellsAt w b o xs
 |[],_,_=>⟨[],by rw[RowP],fun j u h=>by simp at h⟩
 |t :: r,o,h=>by
  rw[TreesP] at h;obtain⟨⟨v0,v1,v2,v3,c0,c1,c2,c3,ht⟩,hr⟩:=h;obtain⟨xs,hx,hc⟩:=hr.row;refine⟨v0 :: v1 :: v2 :: v3 :: xs,?_,fun j u hj=>?_⟩
  ·rw[RowP];exact⟨v0,v1,v2,v3,xs,rfl,ht,hx⟩
  match j with
  |0=>simp at hj;subst hj;exact c0
  |1=>simp at hj;subst hj;exact c1
  |2=>simp at hj;subst hj;exact c2
  |3=>simp at hj;subst hj;exact c3
  |j+4 =>
   have:=hc j u (by simpa using hj);rw[show o+(j+4)=o+4+j by omega];exact this
theorem RowP.set{q:Nat→Prop}{w:World}{t:Raw}{v0 v1 v2 v3:Value}(ht:TreeP q w t v0 v1 v2 v3):∀{ts:List Raw}{xs:List Value}(i:Nat),i<ts.length→RowP q w ts xs→RowP q w (ts.set i t) ((((xs.set (i*4) v0).set (i*4+1) v1).set (i*4+2) v2).set (i*4+3) v3)
 |[],_,_,hi,_=>by simp at hi
 |u :: r,xs,i,hi,h=>by
  rw[RowP] at h;obtain⟨u0,u1,u2,u3,ys,rfl,hu,hr⟩:=h
  match i with
  |0=>simp only[List.set_cons_zero,Nat.zero_mul,Nat.zero_add,List.set_cons_succ];rw[RowP];exact⟨v0,v1,v2,v3,ys,rfl,ht,hr⟩
  |i+1 =>
   have:=RowP.set ht i (by simpa using hi) hr;rw[show(i+1)*4=i*4+1+1+1+1 by omega];simp only[List.set_cons_succ];rw[RowP];exact⟨u0,u1,u2,u3,_,rfl,hu,this⟩
theorem CellsAt.set{w:World}{b o j0:Nat}{xs:List Value}(h:CellsAt w b o xs)(v:Value):CellsAt (w.setCell ⟨b,o+j0,none⟩ v) b o (xs.set j0 v):=by
 intro j u hj;by_cases e:j=j0
 ·subst e;have hl:j<xs.length:=by
   rcases Nat.lt_or_ge j xs.length with h1 | h1
   ·exact h1
   rw[List.set_eq_of_length_le h1,List.getElem?_eq_none h1] at hj;cases hj
  rw[List.getElem?_set_self hl] at hj;cases hj;refine World.cell?_setCell_same' _ _ _ ?_;rw[h j xs[j] (Zg hl)];rfl
 rw[List.getElem?_set_ne (Ne.symm e)] at hj;rw[World.cell?_setCell_other]
 ·exact h j u hj
 intro e';have:=congrArg Addr.off e';simp at this;omega
theorem taddr_add(b j:Nat):(⟨b,0,none⟩:Addr).add j=⟨b,j,none⟩:=by
 unfold Addr.add;split <;> simp_all
theorem own_cells{w:World}{base:Nat}{e:TypeId}{size n g cap:Nat}{xs:List Value}(h:w.ownsRow base e size (.slice (some ⟨g,0,none⟩) n cap) n xs):CellsAt w g 0 xs:=by
 intro j u hj;have:=h.cells (g:=g) rfl j u hj;rw[taddr_add] at this;simpa using this
def TreesAtP(q:Nat→Prop)(w:World)(A:Option Addr)(ts:List Raw):Prop:=ts≠[]→∃b o,A=some ⟨b,o,none⟩∧b<w.heap.size∧q b∧TreesP q w b ts o
theorem TreesAtP.keep{q q':Nat→Prop}{w w':World}{A:Option Addr}{ts:List Raw}(hk:∀b,q b→b<w.heap.size→w'.heap[b]?=w.heap[b]?)(hs:w.heap.size≤w'.heap.size)(hq:∀b,b<w.heap.size→q b→q' b)(h:TreesAtP q w A ts):TreesAtP q' w' A ts:=fun hne=>by
 obtain⟨b,o,hA,hlt,hb,h⟩:=h hne;exact⟨b,o,hA,Zl hlt hs,hq b hlt hb,TreesP.keep hk hs hq ts b o hlt hb h⟩
def TreeVP(q:Nat→Prop)(w:World)(t:Raw)(v:Value):Prop:=∃v0 v1 v2 v3,v=.agg #[v0,v1,v2,v3]∧TreeP q w t v0 v1 v2 v3
theorem TreeVP.toV{q:Nat→Prop}{w:World}{t:Raw}{v:Value}(h:TreeVP q w t v):TreeV w t v:=by
 obtain⟨v0,v1,v2,v3,rfl,h⟩:=h;exact⟨v0,v1,v2,v3,rfl,TreeP.toC t _ _ _ _ h⟩
theorem TreeV.toP{q:Nat→Prop}{w:World}{t:Raw}{v:Value}(hq:∀b,b<w.heap.size→q b)(h:TreeV w t v):TreeVP q w t v:=by
 obtain⟨v0,v1,v2,v3,rfl,h⟩:=h;exact⟨v0,v1,v2,v3,rfl,TreeC.toP hq t _ _ _ _ h⟩
theorem TreeVP.mk{q:Nat→Prop}{w:World}{k p:Int}{n:List UInt8}{ts:List Raw}{A:Option Addr}{c:Nat}(hn:n.length≤1000000)(hc:ts.length≤c)(h:TreesAtP q w A ts):TreeVP q w (.node k n p ts) (.agg #[.int .i64 k,S n,.int .i64 p,.slice A ts.length c]) :=
 ⟨_,_,_,_,rfl,by rw[TreeP];exact⟨rfl,rfl,hn,rfl,A,c,rfl,hc,h⟩⟩
theorem put4{W:World}{R:Nat}{a0 a1 a2 a3:Value}{t:TypeId}(h:W.heap[R]?=some (.cells #[a0,a1,a2,a3] t (0,0)))(v0 v1 v2 v3:Value):∃s1 s2 s3 s4,W.setCell ⟨R,0,none⟩ v0=s1∧s1.setCell ⟨R,1,none⟩ v1=s2∧s2.setCell ⟨R,2,none⟩ v2=s3∧s3.setCell ⟨R,3,none⟩ v3=s4 ∧
  (W.cell? ⟨R,0,none⟩=some a0∧s1.cell? ⟨R,1,none⟩=some a1∧s2.cell? ⟨R,2,none⟩=some a2∧s3.cell? ⟨R,3,none⟩=some a3) ∧
  (W.frozen? ⟨R,0,none⟩=false∧s1.frozen? ⟨R,1,none⟩=false∧s2.frozen? ⟨R,2,none⟩=false∧s3.frozen? ⟨R,3,none⟩=false) ∧
  s4.heap[R]?=some (.cells #[v0,v1,v2,v3] t (0,0))∧Oth R W s4:=by
 obtain⟨s1,h1⟩:∃s1,W.setCell ⟨R,0,none⟩ v0=s1:=⟨_,rfl⟩;obtain⟨s2,h2⟩:∃s2,s1.setCell ⟨R,1,none⟩ v1=s2:=⟨_,rfl⟩;obtain⟨s3,h3⟩:∃s3,s2.setCell ⟨R,2,none⟩ v2=s3:=⟨_,rfl⟩;obtain⟨s4,h4⟩:∃s4,s3.setCell ⟨R,3,none⟩ v3=s4:=⟨_,rfl⟩;have q1:s1.heap[R]?=some (.cells #[v0,a1,a2,a3] t (0,0)):=zU h h1;have q2:s2.heap[R]?=some (.cells #[v0,v1,a2,a3] t (0,0)):=zU q1 h2;have q3:s3.heap[R]?=some (.cells #[v0,v1,v2,a3] t (0,0)):=zU q2 h3;have q4:s4.heap[R]?=some (.cells #[v0,v1,v2,v3] t (0,0)):=zU q3 h4;refine⟨s1,s2,s3,s4,h1,h2,h3,h4,⟨zC h 0,zC q1 1,zC q2 2,zC q3 3⟩,⟨zF h 0,zF q1 1,zF q2 2,zF q3 3⟩,q4,?_⟩;rw[←h4,←h3,←h2,←h1];exact(((Oth.set W v0).trans (Oth.set _ v1)).trans (Oth.set _ v2)).trans (Oth.set _ v3)
end
section
open Go.RowKit Go.Maps Go.WideMaps _root_.Lfc
def opV(o:Lfc.Op):Value:=.agg #[S o.name,.int .i64 o.fix,.int .i64 o.prec]
def OpC(w:World)(b o:Nat)(x:Lfc.Op):Prop:=w.cell? ⟨b,o,none⟩=some (S x.name)∧w.cell? ⟨b,o+1,none⟩=some (.int .i64 x.fix)∧w.cell? ⟨b,o+2,none⟩=some (.int .i64 x.prec)
def OpsAt(w:World)(A:Option Addr)(l:List Lfc.Op):Prop:=(∀x∈l,x.name.length≤1000000)∧(l≠[]→∃b o,A=some ⟨b,o,none⟩∧b<w.heap.size∧∀i(h:i<l.length),OpC w b (o+i*3) l[i])
theorem OpsAt.below{w w':World}{A:Option Addr}{l:List Lfc.Op}(h:OpsAt w A l)(hb:Below w.heap.size w w'):OpsAt w' A l:=⟨h.1,fun hne=>by
 obtain⟨b,o,hA,hlt,hc⟩:=h.2 hne;refine⟨b,o,hA,Zl hlt hb.size,fun i hi=>?_⟩;obtain⟨c0,c1,c2⟩:=hc i hi;exact⟨(hb.cell (p:=⟨b,_,none⟩) hlt).trans c0,(hb.cell (p:=⟨b,_,none⟩) hlt).trans c1,(hb.cell (p:=⟨b,_,none⟩) hlt).trans c2⟩⟩
def OpdC(w:World)(b o:Nat)(x:Opd):Prop:=∃k n p ts A c,x.tree=.node k n p ts∧w.cell? ⟨b,o,none⟩=some (.int .i64 k)∧w.cell? ⟨b,o+1,none⟩=some (S n)∧w.cell? ⟨b,o+2,none⟩=some (.int .i64 p)∧w.cell? ⟨b,o+3,none⟩=some (.slice A ts.length c)∧w.cell? ⟨b,o+4,none⟩=some (.bool x.closed)∧TreeV w (.node k n p ts) (.agg #[.int .i64 k,S n,.int .i64 p,.slice A ts.length c])
def OpdsAt(w:World)(A:Option Addr)(s:List Opd):Prop:=s≠[]→∃b o,A=some ⟨b,o,none⟩∧b<w.heap.size∧∀i(h:i<s.length),OpdC w b (o+i*5) s[i]
theorem OpdC.below{w w':World}{b o:Nat}{x:Opd}(h:OpdC w b o x)(hlt:b<w.heap.size)(hb:Below w.heap.size w w'):OpdC w' b o x:=by
 obtain⟨k,n,p,ts,A,c,e,c0,c1,c2,c3,c4,hT⟩:=h;exact⟨k,n,p,ts,A,c,e,(hb.cell (p:=⟨b,_,none⟩) hlt).trans c0,(hb.cell (p:=⟨b,_,none⟩) hlt).trans c1,(hb.cell (p:=⟨b,_,none⟩) hlt).trans c2,(hb.cell (p:=⟨b,_,none⟩) hlt).trans c3,(hb.cell (p:=⟨b,_,none⟩) hlt).trans c4,hT.below hb⟩
theorem OpdsAt.below{w w':World}{A:Option Addr}{s:List Opd}(h:OpdsAt w A s)(hb:Below w.heap.size w w'):OpdsAt w' A s:=fun hne=>by
 obtain⟨b,o,hA,hlt,hc⟩:=h hne;exact⟨b,o,hA,Zl hlt hb.size,fun i hi=>(hc i hi).below hlt hb⟩
theorem OpdsAt.at_{w:World}{A:Option Addr}{s:List Opd}(h:OpdsAt w A s){i:Nat}(hi:i<s.length):∃b o k n p ts B c,A=some ⟨b,o,none⟩∧b<w.heap.size∧s[i].tree=.node k n p ts∧w.cell? ⟨b,o+i*5,none⟩=some (.int .i64 k)∧w.cell? ⟨b,o+i*5+1,none⟩=some (S n)∧w.cell? ⟨b,o+i*5+2,none⟩=some (.int .i64 p)∧w.cell? ⟨b,o+i*5+3,none⟩=some (.slice B ts.length c)∧w.cell? ⟨b,o+i*5+4,none⟩=some (.bool s[i].closed)∧TreeV w (.node k n p ts) (.agg #[.int .i64 k,S n,.int .i64 p,.slice B ts.length c]):=by
 obtain⟨b,o,hA,hlt,hc⟩:=h (by intro h0;rw[h0] at hi;simp at hi);obtain⟨k,n,p,ts,B,c,e,c0,c1,c2,c3,c4,hT⟩:=hc i hi;exact⟨b,o,k,n,p,ts,B,c,hA,hlt,e,c0,c1,c2,c3,c4,hT⟩
theorem OpdsAt.part{w:World}{b o:Nat}{s:List Opd}(h:OpdsAt w (some ⟨b,o,none⟩) s)(i j:Nat):OpdsAt w (some ⟨b,o+i*5,none⟩) ((s.take j).drop i):=fun hne=>by
 have hl:i<(s.take j).length:=by
  rcases Nat.lt_or_ge i (s.take j).length with h1 | h1
  ·exact h1
  exact absurd (List.drop_eq_nil_of_le h1) hne
 rw[List.length_take] at hl;obtain⟨b',o',hA,hlt,hc⟩:=h (by intro h0;rw[h0] at hl;simp at hl);cases hA;refine⟨b,o+i*5,rfl,hlt,fun k hk=>?_⟩;rw[List.length_drop,List.length_take] at hk;have:=hc (i+k) (by omega);rw[show o+i*5+k*5=o+(i+k)*5 by omega];simpa using this
def OpdV(w:World)(x:Opd)(v:Value):Prop:=∃k n p ts A c,x.tree=.node k n p ts∧v=.agg #[.int .i64 k,S n,.int .i64 p,.slice A ts.length c,.bool x.closed]∧TreeV w (.node k n p ts) (.agg #[.int .i64 k,S n,.int .i64 p,.slice A ts.length c])
theorem OpdV.below{w w':World}{x:Opd}{v:Value}(h:OpdV w x v)(hb:Below w.heap.size w w'):OpdV w' x v:=by
 obtain⟨k,n,p,ts,A,c,e,rfl,hT⟩:=h;exact⟨k,n,p,ts,A,c,e,rfl,hT.below hb⟩
theorem check_any(o:Lfc.Op)(w:World)(hn:o.name.length<=1000000):Calls Tryz.prog 106 #[opV o] w fun e w'=>e=.returned (zI o.bad)/\zb w w':=by
 obtain⟨n,f,p⟩:=o;unfold opV;simp only at hn ⊢;obtain⟨z,hz⟩:∃z,Lfc.Op.bad ⟨n,f,p⟩=z:=⟨_,rfl⟩;rw[hz];have HZ:=zH hz;have HN:=zH (fun W=>isName_any n W (by omega));have b1:zb w (w.alloc (.cells #[S n,zI f,zI p] 34)):=(zB _ _).alloc (zN _) _;clear hz;cases hq:isName n
 ·rw[hq] at HN;have HQ:=zH hq;clear hq;go_enter Tryz.func106,Tryz.ntmps106;go_wp2_with fail;refine(HN.o _).mono ?_;rintro e w2⟨rfl,rfl⟩;go_wp2_with fail;go_ret;exact⟨ret_int (by rw[<-HZ.o];first | (simp[Lfc.Op.bad,HQ.o];done) | (simp[Lfc.Op.bad,HQ.o];rw[if_neg (by omega),if_neg (by omega)])),b1⟩
 rw[hq] at HN;have HQ:=zH hq;clear hq;by_cases a1:f<1
 ·have d0:decide (f<1)=true:=by simpa using a1
  have Ha1:=zH a1;go_enter Tryz.func106,Tryz.ntmps106;go_wp2_with fail;refine(HN.o _).mono ?_;rintro e w2⟨rfl,rfl⟩;go_wp2_with fail;go_ret;exact⟨ret_int (by rw[<-HZ.o];first | (simp[Lfc.Op.bad,HQ.o,Ha1.o];done) | (simp[Lfc.Op.bad,HQ.o,Ha1.o];rw[if_neg (by omega),if_neg (by omega)])),b1⟩
 have d0:decide (f<1)=false:=by simpa using a1
 have Ha1:=zH a1;have i0:1<=f:=by omega
 clear a1;by_cases a2:5<f
 ·have d1:decide (5<f)=true:=by simpa using a2
  have Ha2:=zH a2;go_enter Tryz.func106,Tryz.ntmps106;go_wp2_with fail;refine(HN.o _).mono ?_;rintro e w2⟨rfl,rfl⟩;go_wp2_with fail;go_ret;exact⟨ret_int (by rw[<-HZ.o];first | (simp[Lfc.Op.bad,HQ.o,Ha1.o,Ha2.o];done) | (simp[Lfc.Op.bad,HQ.o,Ha1.o,Ha2.o];rw[if_neg (by omega),if_neg (by omega)])),b1⟩
 have d1:decide (5<f)=false:=by simpa using a2
 have Ha2:=zH a2;have i1:f<=5:=by omega
 clear a2;by_cases a3:p<0
 ·have d2:decide (p<0)=true:=by simpa using a3
  have Ha3:=zH a3;go_enter Tryz.func106,Tryz.ntmps106;go_wp2_with fail;refine(HN.o _).mono ?_;rintro e w2⟨rfl,rfl⟩;go_wp2_with fail;go_ret;exact⟨ret_int (by rw[<-HZ.o];first | (simp[Lfc.Op.bad,HQ.o,Ha1.o,Ha2.o,Ha3.o];done) | (simp[Lfc.Op.bad,HQ.o,Ha1.o,Ha2.o,Ha3.o];rw[if_neg (by omega),if_neg (by omega)])),b1⟩
 have d2:decide (p<0)=false:=by simpa using a3
 have Ha3:=zH a3;have i2:0<=p:=by omega
 clear a3;by_cases a4:99<p
 ·have d3:decide (99<p)=true:=by simpa using a4
  have Ha4:=zH a4;go_enter Tryz.func106,Tryz.ntmps106;go_wp2_with fail;refine(HN.o _).mono ?_;rintro e w2⟨rfl,rfl⟩;go_wp2_with fail;go_ret;exact⟨ret_int (by rw[<-HZ.o];first | (simp[Lfc.Op.bad,HQ.o,Ha1.o,Ha2.o,Ha3.o,Ha4.o];done) | (simp[Lfc.Op.bad,HQ.o,Ha1.o,Ha2.o,Ha3.o,Ha4.o];rw[if_neg (by omega),if_neg (by omega)])),b1⟩
 have d3:decide (99<p)=false:=by simpa using a4
 have Ha4:=zH a4;have i3:p<=99:=by omega
 clear a4;go_enter Tryz.func106,Tryz.ntmps106;go_wp2_with fail;refine(HN.o _).mono ?_;rintro e w2⟨rfl,rfl⟩;go_wp2_with fail;go_ret;exact⟨ret_int (by rw[<-HZ.o];first | (simp[Lfc.Op.bad,HQ.o,Ha1.o,Ha2.o,Ha3.o,Ha4.o];done) | (simp[Lfc.Op.bad,HQ.o,Ha1.o,Ha2.o,Ha3.o,Ha4.o];rw[if_neg (by omega),if_neg (by omega)])),b1⟩
theorem arrow_any(x:Opd)(v:Value)(w:World)(hl:x.tree.args.length<=1000000000)(hv:OpdV w x v):Calls Tryz.prog 121 #[v] w fun e w'=>e=.returned (.bool x.arrow)/\zb w w':=by
 obtain⟨⟨k,n,p,ts⟩,cl⟩:=x;obtain⟨k',n',p',ts',A,c,e,rfl,hT⟩:=hv;cases e;simp only[Raw.args] at hl ⊢;obtain⟨z,hz⟩:∃z,Opd.arrow ⟨.node k n p ts,cl⟩=z:=⟨_,rfl⟩;rw[hz];have HZ:=zH hz;clear hT hz;obtain⟨w1,hw1⟩:∃w1,(w.alloc (.cells #[zI k,S n,zI p,.slice A ts.length c,.bool cl] 129)).alloc (.cells (zT k n p A ts c) 46)=w1:=⟨_,rfl⟩;have b1:zb w w1:=by rw[<-hw1];exact((zB _ _).alloc (zN _) _).alloc (by simp) _
 have qo:zk w1 w.heap.size #[zI k,S n,zI p,.slice A ts.length c,.bool cl] 129:=by rw[<-hw1];exact heap_alloc_old _ _ _ _ (zW _ _)
 have qt:w1.heap[w.heap.size+1]?=some (.cells (zT k n p A ts c) 46 (0,0)):=by
  rw[<-hw1];have:=zW (w.alloc (.cells #[zI k,S n,zI p,.slice A ts.length c,.bool cl] 129)) (.cells (zT k n p A ts c) 46);simpa using this
 have y4:zc w1 w.heap.size 4 (.bool cl):=zC qo 4;obtain⟨x0,x1,x2,x3⟩:zc w1 (w.heap.size+1) 0 (zI k)/\zc w1 (w.heap.size+1) 1 (S n)/\zc w1 (w.heap.size+1) 2 (zI p)/\zc w1 (w.heap.size+1) 3 (.slice A ts.length c):=⟨zC qt 0,zC qt 1,zC qt 2,zC qt 3⟩;clear qo qt;cases cl
 ·by_cases hk:k=1
  ·subst hk;by_cases ht:ts.length=0
   ·have ht2:((ts.length:Int) == 0)=true:=(by simp[ht]);have HT:=zH ht;clear ht;by_cases hr:n=[45,62]
    ·subst hr;go_enter Tryz.func121,Tryz.ntmps121;go_upto_region 2 with fail;clear hw1;go_wp2_with fail;go_ret;exact⟨by rw[<-HZ.o];simp[Opd.arrow,Raw.kind,Raw.args,Raw.name,arrR,arrL,HT.o],b1⟩
    by_cases hl2:n=[60,45]
    ·subst hl2;go_enter Tryz.func121,Tryz.ntmps121;go_upto_region 2 with fail;clear hw1;go_wp2_with fail;go_ret;exact⟨by rw[<-HZ.o];simp[Opd.arrow,Raw.kind,Raw.args,Raw.name,arrR,arrL,HT.o],b1⟩
    have hr2:(n == [45,62])=false:=(by simpa using hr);have hl3:(n == [60,45])=false:=(by simpa using hl2);have HR:=zH hr;have HL:=zH hl2;have hr3:¬n.toArray=#[45,62]:=fun e=>hr (by simpa using congrArg Array.toList e);have hl4:¬n.toArray=#[60,45]:=fun e=>hl2 (by simpa using congrArg Array.toList e);clear hr hl2;go_enter Tryz.func121,Tryz.ntmps121;go_upto_region 2 with fail;clear hw1;go_wp2_with fail;go_ret;exact⟨by rw[<-HZ.o];simp[Opd.arrow,Raw.kind,Raw.args,Raw.name,arrR,arrL,HT.o,HR.o,HL.o],b1⟩
   have ht2:((ts.length:Int) == 0)=false:=(by simp;intro e;exact ht (by simp[e]));have HT:=zH ht;clear ht;go_enter Tryz.func121,Tryz.ntmps121;go_upto_region 2 with fail;clear hw1;go_wp2_with fail;go_ret;exact⟨by rw[<-HZ.o];simp[Opd.arrow,Raw.kind,Raw.args,Raw.name,arrR,arrL,HT.o],b1⟩
  have hk2:(k == 1)=false:=by simpa using hk
  have HK:=zH hk;clear hk;go_enter Tryz.func121,Tryz.ntmps121;go_upto_region 2 with fail;clear hw1;go_wp2_with fail;go_ret;exact⟨by rw[<-HZ.o];simp[Opd.arrow,Raw.kind,Raw.args,Raw.name,arrR,arrL,HK.o],b1⟩
 go_enter Tryz.func121,Tryz.ntmps121;go_upto_region 2 with fail;clear hw1;go_wp2_with fail;go_ret;exact⟨by rw[<-HZ.o];simp[Opd.arrow,Raw.kind,Raw.args,Raw.name,arrR,arrL],b1⟩
end
end Go.Proofs.YthajalgkjonaaaaGreatDoor
