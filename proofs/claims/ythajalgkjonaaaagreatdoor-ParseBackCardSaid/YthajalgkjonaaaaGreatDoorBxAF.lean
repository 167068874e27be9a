/- Parts of the proof that no input makes the law false: OpAdd, PaMem, PaOpd, OpLow, OpLow2. -/
import Derived.Test.YthajalgkjonaaaaGreatDoorBxAE
set_option linter.unusedVariables false
set_option linter.unusedSimpArgs false
set_option maxRecDepth 100000
set_option maxHeartbeats 32000000
namespace Go.Proofs.YthajalgkjonaaaaGreatDoor
section
open Go.RowKit Go.Maps Go.WideMaps _root_.Lfc
def opCells:List Lfc.Op→List Value
 |[]=>[]
 |x :: r=>S x.name :: .int .i64 x.fix :: .int .i64 x.prec :: opCells r
theorem opCells_len:∀l:List Lfc.Op,(opCells l).length=l.length*3
 |[]=>rfl
 |x :: r=>by simp only[opCells,List.length_cons,opCells_len r];omega
theorem opCells_app:∀a b:List Lfc.Op,opCells (a++b)=opCells a++opCells b
 |[],b=>rfl
 |x :: r,b=>by simp only[List.cons_append,opCells,opCells_app r b]
theorem opCells_one:∀(l:List Lfc.Op),∀u∈opCells l,u.oneCell'=true
 |[],u,h=>by cases h
 |x :: r,u,h=>by
  simp only[opCells,List.mem_cons] at h;rcases h with rfl | rfl | rfl | h
  ·rfl
  ·rfl
  ·rfl
  exact opCells_one r u h
theorem opCells_get:∀(l:List Lfc.Op)(i:Nat)(h:i<l.length),(opCells l)[i*3]?=some (S l[i].name)∧(opCells l)[i*3+1]?=some (.int .i64 l[i].fix)∧(opCells l)[i*3+2]?=some (.int .i64 l[i].prec)
 |[],_,h=>by simp at h
 |x :: r,0,_=>by simp[opCells]
 |x :: r,i+1,h=>by
  have:=opCells_get r i (by simpa using h);rw[show(i+1)*3=i*3+1+1+1 by omega];simpa[opCells] using this
theorem ops_cells{w:World}{b:Nat}:∀(l:List Lfc.Op)(o:Nat),(∀i(h:i<l.length),OpC w b (o+i*3) l[i])→∀j u,(opCells l)[j]?=some u→w.cell? ⟨b,o+j,none⟩=some u
 |[],o,_,j,u,h=>by simp[opCells] at h
 |x :: r,o,hc,j,u,h=>by
  have h0:=hc 0 (by simp);simp only[Nat.zero_mul,Nat.add_zero,List.getElem_cons_zero] at h0
  match j with
  |0=>simp[opCells] at h;subst h;exact h0.1
  |1=>simp[opCells] at h;subst h;exact h0.2.1
  |2=>simp[opCells] at h;subst h;exact h0.2.2
  |j+3 =>
   have h1:=ops_cells r (o+3) (fun i hi=>by
    have:=hc (i+1) (by simpa using hi);rw[show o+3+i*3=o+(i+1)*3 by omega];simpa using this) j u (by simpa[opCells] using h)
   rw[show o+(j+3)=o+3+j by omega];exact h1
theorem OpsAt.of_own{w:World}{base c:Nat}{A:Option Addr}{l:List Lfc.Op}(hn:∀x∈l,x.name.length≤1000000)(h:w.ownsRow base 34 3 (.slice A l.length c) l.length (opCells l)):OpsAt w A l:=⟨hn,fun hne=>by
 rcases h.2 with⟨_,h0⟩ | ⟨g,cap,cur,hv,hbg,hg,_⟩
 ·exact absurd (Zz h0) hne
 have hv':=hv;injection hv with e1 _ e3;subst e1 e3;have hc:=own_cells h;refine⟨g,0,rfl,zL hg,fun i hi=>?_⟩;obtain⟨c0,c1,c2⟩:=opCells_get l i hi;exact⟨hc _ _ c0,hc _ _ c1,hc _ _ c2⟩⟩
theorem op_info:∃i,Tryz.prog.info? 34=some i∧i.zero=some (.agg #[S [],.int .i64 0,.int .i64 0])∧i.size=3∧i.bytes=32:=by
 obtain⟨i0,hi,hz0,hz1,hz2⟩:=info_parts (show(Tryz.prog.info? 34).map (fun i=>(i.zero,i.size,i.bytes))=some (some (.agg #[S [],.int .i64 0,.int .i64 0]),3,32) by kernel_rfl);exact⟨i0,hi,hz0,hz1,hz2⟩
theorem oclone_any(l:List Lfc.Op)(A:Option Addr)(c:Nat)(w:World)(hl:l.length<=1000000000)(h:OpsAt w A l) :
  Calls Tryz.prog 61 #[.slice A l.length c] w fun e w'=>∃A' c',e=.returned (.slice A' l.length c')/\Hid (w'.ownsRow w.heap.size 34 3 (.slice A' l.length c') l.length (opCells l))/\zb w w':=by
 obtain⟨i0,hi,hz0,hz1,hz2⟩:=op_info;rcases A with _ | A
 ·have hts:l=[]:=by
   by_cases e:l=[]
   ·exact e
   obtain⟨b,o,hA,_⟩:=h.2 e;cases hA
  subst hts;simp only[List.length_nil] at *;have hnil:∀W:World,(binOp .eql 26 (.slice none 0 c) zS).run Tryz.prog W=.ok (.bool true) W:=fun _=>rfl;clear h;go_enter Tryz.func61,Tryz.ntmps61;go_wp2_with fail;go_ret;exact⟨none,0,rfl,zH (own_nil _ _ _ _),zB _ _⟩
 have hcells:∀j u,(opCells l)[j]?=some u->w.cell? (A.add j)=some u:=fun j u hj=>by
  by_cases e:l=[]
  ·subst e;simp[opCells] at hj
  obtain⟨b,o,hA,hb,hc⟩:=h.2 e;cases hA;rw[Go.WideShapes.add_plain];exact ops_cells l o hc j u hj
 have hx:=opCells_len l;have hone:=opCells_one l;have hlm:0+l.length<=maxLen:=by unfold maxLen;omega
 have hl32:(0+l.length)*32<=140737488355328:=by omega
 have hown0:(w.alloc (.cells #[] 34)).ownsRow w.heap.size 34 3 (.slice (some ⟨w.heap.size,0,none⟩) 0 0) 0 [] :=
  ⟨rfl,.inr ⟨w.heap.size,0,#[],rfl,zN _,zW _ _,zN _,by unfold maxLen;omega,rfl,rfl⟩⟩
 have hc2:∀j u,(opCells l)[j]?=some u->(w.alloc (.cells #[] 34)).cell? (A.add j)=some u:=fun j u hj=>by
  have h1:=hcells j u hj;have h2:(A.add j).block<w.heap.size:=by
   rcases Nat.lt_or_ge (A.add j).block w.heap.size with h3 | h3
   ·exact h3
   unfold World.cell? at h1;rw[Array.getElem?_eq_none h3] at h1;cases h1
  rw[World.cell?_of_block (zA w _ _ h2)];exact h1
 have HOWN:=zH hown0;have HC2:=zH hc2;have b1:zb w (w.alloc (.cells #[] 34)):=(zB _ _).alloc (zN _) _;have hnil:∀W:World,(binOp .eql 26 (.slice (some A) l.length c) zS).run Tryz.prog W=.ok (.bool false) W:=fun _=>rfl;clear h hcells hown0 hc2;go_enter Tryz.func61,Tryz.ntmps61;go_wp2_with (at_builtin;refine wpList_append_own_at _ rfl _ _ 26 rfl w.heap.size 34 i0 (.agg #[S [],zI 0,zI 0]) 3 32 Tryz.underlying26 hi hz0 hz1 hz2 rfl (by decide) _ _ _ rfl HOWN.o A l.length c (opCells l) rfl hx HC2.o hone hlm hl32 (by simp) ?_);intro v' w2 hown2 hg2 _ _;obtain⟨A2,c2,rfl⟩:=own_form hown2;have HO2:=zH hown2;have b2:zb w w2:=b1.grown hg2 (by simp) (own_block_ge HOWN.o);clear hown2 hg2;go_wp2_with fail;go_ret;exact⟨A2,c2,rfl,by simpa using HO2,b2⟩
def AddPost(w:World)(l:List Lfc.Op)(o:Lfc.Op)(e:Ending)(w':World):Prop:=(∃A c,e=.returned (.tuple #[.slice A (added l o).1.length c,.int .i64 (added l o).2])∧OpsAt w' A (added l o).1)∧Below w.heap.size w w'
def AddPostN(w:World)(l:List Lfc.Op)(o:Lfc.Op)(e:Ending)(w':World):Prop:=(∃A c,e=.returned (.tuple #[.slice A (added l o).1.length c,.int .i64 (added l o).2])∧OpsAt w' A (added l o).1∧∀a,A=some a→w.heap.size≤a.block)∧Below w.heap.size w w'
theorem opAdd_new(l:List Lfc.Op)(o:Lfc.Op)(A:Option Addr)(c:Nat)(w:World)(hl:l.length<=1000000)(hn:o.name.length<=1000000)(h:OpsAt w A l) :
  Calls Tryz.prog 49 #[.slice A l.length c,opV o] w (AddPostN w l o):=by
 have he:=enters_add1;obtain⟨i0,hi,hz0,hz1,hz2⟩:=op_info;obtain⟨wa,hwa⟩:∃wa,w.alloc (.cells #[S o.name,zI o.fix,zI o.prec] 34)=wa:=⟨_,rfl⟩;have ba:=zG hwa;have qa:=zQ hwa;have hlta:=zL qa;have HN:=zH h.1;have CK:=zH (check_any o wa hn);have CC:=zH (fun W (hb:zb wa W)=>contains_add1 l A c W w.heap.size o.name (by omega) (h.below (ba.trans (hb.mono ba.size))) ((hb.cell (p:=⟨w.heap.size,0,none⟩) hlta).trans (cells3 qa).1) (Zl hlta hb.size));have CL:=zH (fun W (hb:zb wa W)=>oclone_any l A c W (by omega) (h.below (ba.trans (hb.mono ba.size))));have FC:=zH (fun W (hb:zb wa W)=>cells3 ((hb.block _ hlta).trans qa));have BA:=zH ba;have aa:∀W W',zb wa W->zb W W'->zb wa W':=fun W W' h h'=>h.trans (h'.mono h.size);obtain⟨q,hq⟩:∃q,l.any (fun x=>decide (x.name=o.name))=q:=⟨_,rfl⟩;have HQ:=zH hq;rw[hq] at CC;obtain⟨x0,x1,x2⟩:=cells3 qa;have fin0:Hid (∀(k:Int)(A':Option Addr)(c':Nat)(W W':World),added l o=(l,k)->zb wa W->zb W W'->W'.ownsRow W.heap.size 34 3 (.slice A' l.length c') l.length (opCells l)->AddPostN w l o (.returned (.tuple #[.slice A' l.length c',zI k])) W'):=zH (fun k A' c' W W' ha hb hb' ho=>by
  unfold AddPostN;rw[ha];exact⟨⟨A',c',rfl,OpsAt.of_own HN.o ho,fun a e=>by have h1:=ho.lt a.block (by show Value.ownBlock (.slice A' l.length c')=_;rw[e];rfl);have h2:=hb.size;have h3:=BA.o.size;omega⟩,BA.o.trans (((hb.trans (hb'.mono hb.size))).mono BA.o.size)⟩)
 unfold opV at CK ⊢;have HWA:=zH hwa;have HAD0:Hid (added l o=if o.bad≠0 then(l,o.bad) else if q=true then(l,30) else if 512<=l.length then(l,7) else(l++[o],0)):=zH (by unfold added;rw[hq]);generalize hzb:o.bad=z at *;clear ba qa h hwa hq hzb;by_cases hz:z=0
 ·subst hz;cases q
  ·by_cases h5:512<=l.length
   ·have HAD:Hid (added l o=(l,7)):=zH (by rw[HAD0.o];simp[h5]);have h5i:(512:Int)<=(l.length:Int):=(by omega);have h5d:decide (512<=l.length)=true:=(by simpa using h5);go_enter Tryz.func49,Tryz.ntmps49;go_upto_region 1 with fail;rw[HWA.o];go_wp2_with fail;refine CK.o.mono ?_;rintro e w1⟨rfl,b1⟩;have hb1:=aa _ _ (zB _ _) b1;go_wp2_with fail;refine(CC.o w1 hb1).mono ?_;rintro e w2⟨rfl,b2⟩;have hb2:=aa _ _ hb1 b2;go_wp2_with fail;refine(CL.o w2 hb2).mono ?_;rintro e w4⟨A4,c4,rfl,HO4,b4⟩;go_wp2_with fail
    go_ret2
    exact fin0.o 7 A4 c4 w2 _ HAD.o hb2 b4 HO4.o
   have HAD:Hid (added l o=(l++[o],0)):=zH (by rw[HAD0.o];simp[h5]);have h5i:(l.length:Int)<512:=(by omega);have h5d:decide (512<=l.length)=false:=(by simpa using h5);have hlm:l.length+1<=maxLen:=(by unfold maxLen;omega);have hl32:(l.length+1)*32<=140737488355328:=(by omega);have hone:∀u∈[S o.name,zI o.fix,zI o.prec],u.oneCell'=true:=(by intro u hu;simp at hu;rcases hu with rfl | rfl | rfl <;> rfl);go_enter Tryz.func49,Tryz.ntmps49;go_upto_region 1 with fail;rw[HWA.o];go_wp2_with fail;refine CK.o.mono ?_;rintro e w1⟨rfl,b1⟩;have hb1:=aa _ _ (zB _ _) b1;go_wp2_with fail;refine(CC.o w1 hb1).mono ?_;rintro e w2⟨rfl,b2⟩;have hb2:=aa _ _ hb1 b2;go_wp2_with fail;refine(CL.o w2 hb2).mono ?_;rintro e w4⟨A4,c4,rfl,HO4,b4⟩;have hb4:=aa _ _ hb2 b4;have hs4:=b4.size;obtain⟨u0,u1,u2⟩:=FC.o w4 hb4;go_wp2_with (at_builtin;refine wpList_append_own_at _ rfl _ _ 26 rfl w2.heap.size 34 i0 (.agg #[S [],zI 0,zI 0]) 3 32 Tryz.underlying26 hi hz0 hz1 hz2 rfl (by decide) _ _ _ rfl (HO4.o.alloc _) ⟨w4.heap.size,0,none⟩ 1 1 [S o.name,zI o.fix,zI o.prec] rfl rfl (fun j u h=>cells_new w4 _ rfl [S o.name,zI o.fix,zI o.prec] 34 j u h) hone hlm hl32 (alloc_le hs4) ?_);intro v8 w8 hown8 hg8 _ _;obtain⟨A8,c8,rfl⟩:=own_form hown8;have HF:Hid (AddPostN w l o (.returned (.tuple #[.slice A8 (l.length+1) c8,zI 0])) w8):=zH (by
    have e1:opCells (l++[o])=opCells l++[S o.name,zI o.fix,zI o.prec]:=(by rw[opCells_app];rfl);have ho:w8.ownsRow w2.heap.size 34 3 (.slice A8 (l++[o]).length c8) (l++[o]).length (opCells (l++[o])):=(by rw[e1,Zq];exact hown8);have bz:zb w2 w8:=(b4.trans (((zB _ _).alloc (zN _) _).mono hs4)).grown hg8 (by simp;omega) (own_block_ge HO4.o);unfold AddPostN;rw[HAD.o];refine⟨⟨A8,c8,by simp,OpsAt.of_own (fun x hx=>?_) ho,fun a e=>by have h1:=ho.lt a.block (by show Value.ownBlock (.slice A8 (l++[o]).length c8)=_;rw[e];rfl);have h2:=hb2.size;have h3:=BA.o.size;omega⟩,BA.o.trans ((hb2.trans (bz.mono hb2.size)).mono BA.o.size)⟩;rcases List.mem_append.1 hx with hx | hx
    ·exact HN.o x hx
    simp at hx;subst hx;exact hn)
   clear hown8 hg8;go_wp2_with fail
   go_ret2
   exact HF.o
  have HAD:Hid (added l o=(l,30)):=zH (by rw[HAD0.o];simp);go_enter Tryz.func49,Tryz.ntmps49;go_upto_region 1 with fail;rw[HWA.o];go_wp2_with fail;refine CK.o.mono ?_;rintro e w1⟨rfl,b1⟩;have hb1:=aa _ _ (zB _ _) b1;go_wp2_with fail;refine(CC.o w1 hb1).mono ?_;rintro e w2⟨rfl,b2⟩;have hb2:=aa _ _ hb1 b2;go_wp2_with fail;refine(CL.o w2 hb2).mono ?_;rintro e w4⟨A4,c4,rfl,HO4,b4⟩;go_wp2_with fail
  go_ret2
  exact fin0.o 30 A4 c4 w2 _ HAD.o hb2 b4 HO4.o
 have HAD:Hid (added l o=(l,z)):=zH (by rw[HAD0.o];simp[hz]);have hz2:(z != 0)=true:=by simpa using hz
 have hz3:(z == 0)=false:=by simpa using hz
 clear hz;go_enter Tryz.func49,Tryz.ntmps49;go_upto_region 1 with fail;rw[HWA.o];go_wp2_with fail;refine CK.o.mono ?_;rintro e w1⟨rfl,b1⟩;have hb1:=aa _ _ (zB _ _) b1;go_wp2_with fail;refine(CL.o w1 hb1).mono ?_;rintro e w4⟨A4,c4,rfl,HO4,b4⟩;go_wp2_with fail
 go_ret2
 exact fin0.o z A4 c4 w1 _ HAD.o hb1 b4 HO4.o
theorem opAdd_any(l:List Lfc.Op)(o:Lfc.Op)(A:Option Addr)(c:Nat)(w:World)(hl:l.length≤1000000)(hn:o.name.length≤1000000)(h:OpsAt w A l) :
  Calls Tryz.prog 49 #[.slice A l.length c,opV o] w (AddPost w l o):=(opAdd_new l o A c w hl hn h).mono fun e w' ⟨⟨A',c',h1,h2,_⟩,h3⟩=>⟨⟨A',c',h1,h2⟩,h3⟩
end
section
open Go.RowKit _root_.Lfc
structure Hd where
 A:Option Addr
 c:Nat
 B:Option Addr
 d:Nat
def PW(w:World)(P:Nat)(G:Hd)(p:Lfc.PE)(k:Nat):Prop :=
 w.heap[P]?=some (.cells #[.slice G.A p.toks.length G.c,.int .i64 (k:Int),.int .i64 (p.fin:Int),.slice G.B p.ops.length G.d] 96 (0,0))∧TokAt w (.slice G.A p.toks.length G.c) p.toks∧OpsAt w G.B p.ops
structure POk(p:Lfc.PE):Prop where
 len:p.toks.length≤20000
 fin:p.fin≤65536
 ops:p.ops.length≤1000000
 tok:∀t∈p.toks,t.text.length≤65536∧(t.kind=1→t.text≠[])
abbrev Flt(e:Int)(a:Nat):Ending:=.panicked [{ v:=.iface 125 (.agg #[.int .i64 e,.int .i64 (a:Int)]),recovered:=false }]
def PRes{α:Type}(P:Nat)(G:Hd)(p:Lfc.PE)(w:World)(V:α→Value→World→Prop):Lfc.PR α→Ending→World→Prop
 |.out,_,_=>True
 |.err c a,e,w'=>e=Flt c a∧Oth P w w'
 |.ok x k,e,w'=>(∃v,e=.returned v∧V x v w')∧PW w' P G p k∧Oth P w w'
theorem PW.lt{w:World}{P k:Nat}{G:Hd}{p:Lfc.PE}(h:PW w P G p k):P<w.heap.size:=by
 obtain⟨h,_⟩:=h;rcases Nat.lt_or_ge P w.heap.size with h1 | h1
 ·exact h1
 rw[Array.getElem?_eq_none h1] at h;cases h
theorem PW.below{w w':World}{P k:Nat}{G:Hd}{p:Lfc.PE}(h:PW w P G p k)(hb:Below w.heap.size w w'):PW w' P G p k:=by
 have hl:=h.lt;obtain⟨h,ht,ho⟩:=h;exact⟨(hb.block P hl).trans h,ht.below hb,ho.below hb⟩
theorem PE.pk_of{p:Lfc.PE}{k:Nat}(h:k<p.toks.length):p.toks[k]?=some (p.pk k):=by
 unfold Lfc.PE.pk;rw[List.getD_eq_getElem?_getD,Zg h];rfl
theorem PE.pk_end{p:Lfc.PE}:p.pk p.toks.length=⟨0,[],p.fin⟩:=by
 unfold Lfc.PE.pk;rw[List.getD_eq_getElem?_getD,List.getElem?_eq_none (zN _)];rfl
theorem tok_size:(Tryz.prog.info? 65).map (·.size)=some 3:=by kernel_rfl
theorem results_tok{fn:Func}{p:Tmp}(h:fn.results=#[.cell p 65])(tmps:Array Value)(w:World)(g:Nat)(v0 v1 v2:Value)(hp:tmps.getD p undef=.pointer (some ⟨g,0,none⟩))(hg:w.heap[g]?=some (.cells #[v0,v1,v2] 65 (0,0))) :
  (results fn tmps).run Tryz.prog w=.ok (.agg #[v0,v1,v2]) w :=
 results_cell_row h tmps w g _ _ _ _ hp hg Tryz.underlying65 rfl tok_size
theorem tok_f0(a b c:Value)(w:World):(Instr.field 65 (.agg #[a,b,c]) 0).run Tryz.prog w=.ok a w:=by kernel_rfl
theorem tok_f1(a b c:Value)(w:World):(Instr.field 65 (.agg #[a,b,c]) 1).run Tryz.prog w=.ok b w:=by kernel_rfl
theorem tok_f2(a b c:Value)(w:World):(Instr.field 65 (.agg #[a,b,c]) 2).run Tryz.prog w=.ok c w:=by kernel_rfl
theorem pfail_any(e:Int)(a:Nat)(w:World):Calls Tryz.prog 66 #[zI e,zI (a:Int)] w fun e' w'=>e'=Flt e a/\w'=w:=by
 go_enter Tryz.func66,Tryz.ntmps66;go_wp2_with fail;exact⟨rfl,rfl,rfl⟩
theorem peek_any{P k:Nat}{G:Hd}{p:Lfc.PE}(w:World)(h:PW w P G p k)(hk:k<=p.toks.length)(ok:POk p):Calls Tryz.prog 63 #[.pointer (some ⟨P,0,none⟩)] w fun e w'=>e=.returned (.agg #[zI (p.pk k).kind,S (p.pk k).text,zI ((p.pk k).pos:Int)])/\zb w w':=by
 have hl:=h.lt;obtain⟨A,c,B,d⟩:=G;obtain⟨hh,⟨A',c',e',hc,ht⟩,ho⟩:=h;simp only at hh e';cases e';have hlen:=ok.len;have hfin:=ok.fin;obtain⟨wa,hwa⟩:∃wa,w.alloc (.cells #[zI 0,S [],zI 0] 65)=wa:=⟨_,rfl⟩;have ba:=zG hwa;have qa:=zQ hwa;have ha:=(ba.block P hl).trans hh;have x0:zc wa P 0 (.slice A p.toks.length c):=zC ha 0;have x1:zc wa P 1 (zI (k:Int)):=zC ha 1;have x2:zc wa P 2 (zI (p.fin:Int)):=zC ha 2;clear hh ho ok ha;by_cases hz:k=p.toks.length
 ·have HP:=zH (PE.pk_end (p:=p));rw[hz,HP.o];rw[hz] at x1;obtain⟨s1,s2,s3,e1,e2,e3,⟨y0,y1,y2⟩,⟨f0,f1,f2⟩,hq,ho⟩:=put3 (W:=wa.drew) qa (zI 0) (S []) (zI (p.fin:Int));have HO:=zH ho;have HQ:=zH hq;have BA:=zH ba;have hs:=eq2 (show wa.heap.size=w.heap.size+1 by rw[<-hwa];simp);clear ht hz hk ho hq ba;go_enter Tryz.func63,Tryz.ntmps63;go_upto_region 1 with fail;clear hwa qa;go_region;go_wp2_with fail;exact bodyPost_ret (results_tok rfl _ _ _ _ _ _ rfl HQ.o) rfl ⟨rfl,Oth.below BA.o (Oth.trans (Oth.refl _ _).drew HO.o) (by omega) (by omega)⟩
 have hlt:k<p.toks.length:=by omega
 obtain⟨b,o,rfl,hb,hcell⟩:=ht (by omega);obtain⟨t0,t1,t2⟩:=hcell k _ (PE.pk_of hlt)
 replace t0:=(ba.cell (p:=⟨b,_,none⟩) hb).trans t0
 replace t1:=(ba.cell (p:=⟨b,_,none⟩) hb).trans t1
 replace t2:=(ba.cell (p:=⟨b,_,none⟩) hb).trans t2
 generalize p.pk k=t at *;obtain⟨s1,s2,s3,e1,e2,e3,⟨y0,y1,y2⟩,⟨f0,f1,f2⟩,hq,ho⟩:=put3 (W:=wa.drew.drew) qa (zI t.kind) (S t.text) (zI (t.pos:Int));have HO:=zH ho;have HQ:=zH hq;have BA:=zH ba;have hs:=eq2 (show wa.heap.size=w.heap.size+1 by rw[<-hwa];simp);clear hcell ht ba ho hq;go_enter Tryz.func63,Tryz.ntmps63;go_upto_region 1 with fail;clear hwa qa;go_region;go_wp2_with fail;go_region;go_wp2_with fail;exact bodyPost_ret (results_tok rfl _ _ _ _ _ _ rfl HQ.o) rfl ⟨rfl,Oth.below BA.o (Oth.trans (Oth.refl _ _).drew.drew HO.o) (by omega) (by omega)⟩
theorem noStr{w:World}{P:Nat}{a b c d:Value}{t:TypeId}(h:w.heap[P]?=some (.cells #[a,b,c,d] t (0,0)))(ha:∀s,a≠S s)(hb:∀s,b≠S s)(hc:∀s,c≠S s)(hd:∀s,d≠S s)(j:Nat)(s:List UInt8):w.cell? ⟨P,j,none⟩≠some (S s):=by
 rw[zC h j]
 match j with
 |0=>intro e;exact ha s (by simpa using e)
 |1=>intro e;exact hb s (by simpa using e)
 |2=>intro e;exact hc s (by simpa using e)
 |3=>intro e;exact hd s (by simpa using e)
 |j+4=>simp
theorem PW.noStr{w:World}{P k:Nat}{G:Hd}{p:Lfc.PE}(h:PW w P G p k)(j:Nat)(s:List UInt8):w.cell? ⟨P,j,none⟩≠some (S s):=by
 obtain⟨h,_⟩:=h;exact Go.Proofs.YthajalgkjonaaaaGreatDoor.noStr h (by simp) (by simp) (by simp) (by simp) j s
theorem TokAt.oth{w w':World}{P:Nat}{v:Value}{l:List Lfc.Tok}(h:TokAt w v l)(hn:∀j s,w.cell? ⟨P,j,none⟩≠some (S s))(ho:Oth P w w'):TokAt w' v l:=by
 obtain⟨A,c,rfl,h1,h2⟩:=h;refine⟨A,c,rfl,h1,fun hp=>?_⟩;obtain⟨b,o,hA,hlt,hc⟩:=h2 hp;have hb:b≠P:=fun e=>by
  obtain⟨_,c1,_⟩:=hc 0 _ (Zg hp);rw[e] at c1;exact hn _ _ c1
 refine⟨b,o,hA,Zl hlt ho.size,fun k t ht=>?_⟩;obtain⟨c0,c1,c2⟩:=hc k t ht;exact⟨(ho.cell (p:=⟨b,_,none⟩) hlt hb).trans c0,(ho.cell (p:=⟨b,_,none⟩) hlt hb).trans c1,(ho.cell (p:=⟨b,_,none⟩) hlt hb).trans c2⟩
theorem OpsAt.oth{w w':World}{P:Nat}{A:Option Addr}{l:List Lfc.Op}(h:OpsAt w A l)(hn:∀j s,w.cell? ⟨P,j,none⟩≠some (S s))(ho:Oth P w w'):OpsAt w' A l:=⟨h.1,fun hne=>by
 obtain⟨b,o,hA,hlt,hc⟩:=h.2 hne;have hb:b≠P:=fun e=>by
  obtain⟨c0,_⟩:=hc 0 (List.length_pos_iff.2 hne);rw[e] at c0;exact hn _ _ c0
 refine⟨b,o,hA,Zl hlt ho.size,fun i hi=>?_⟩;obtain⟨c0,c1,c2⟩:=hc i hi;exact⟨(ho.cell (p:=⟨b,_,none⟩) hlt hb).trans c0,(ho.cell (p:=⟨b,_,none⟩) hlt hb).trans c1,(ho.cell (p:=⟨b,_,none⟩) hlt hb).trans c2⟩⟩
theorem PW.step{w:World}{P k:Nat}{G:Hd}{p:Lfc.PE}(h:PW w P G p k)(k':Nat):PW (w.setCell ⟨P,1,none⟩ (.int .i64 (k':Int))) P G p k':=by
 have hn:=h.noStr;have ho:Oth P w (w.setCell ⟨P,1,none⟩ (.int .i64 (k':Int))):=Oth.set w _;obtain⟨h,ht,hp⟩:=h;exact⟨by simp[World.setCell,zM,h],ht.oth hn ho,hp.oth hn ho⟩
theorem PW.to{w w':World}{P k:Nat}{G:Hd}{p:Lfc.PE}(h:PW w P G p k){k':Nat}(ho:Oth P w w')(hc:w'.heap[P]?=some (.cells #[.slice G.A p.toks.length G.c,.int .i64 (k':Int),.int .i64 (p.fin:Int),.slice G.B p.ops.length G.d] 96 (0,0))):PW w' P G p k' :=
 ⟨hc,h.2.1.oth h.noStr ho,h.2.2.oth h.noStr ho⟩
theorem PW.drew{w:World}{P k:Nat}{G:Hd}{p:Lfc.PE}(h:PW w P G p k):PW w.drew P G p k:=h
theorem is_any{P k:Nat}{G:Hd}{p:Lfc.PE}(kind:Int)(s:List UInt8)(w:World)(h:PW w P G p k)(hk:k<=p.toks.length)(ok:POk p):Calls Tryz.prog 140 #[.pointer (some ⟨P,0,none⟩),zI kind,S s] w fun e w'=>e=.returned (.bool (p.is k kind s))/\zb w w':=by
 have hq:=peek_any w h hk ok;unfold Lfc.PE.is;generalize p.pk k=t at *;clear h ok hk;have HQ:=zH hq;clear hq;by_cases h1:t.kind=kind
 ·have h1':=beq_iff_eq.2 h1;rw[Zt h1];clear h1;by_cases h2:t.text=s
  ·rw[Zt h2,<-h2];clear h2;go_enter Tryz.func140,Tryz.ntmps140;go_wp2_with (go_at_call 63;refine HQ.o.mono ?_;rintro e w1⟨rfl,b1⟩);exact bodyPost_ret (by simp[results,Tryz.results140,go_sem]) rfl ⟨rfl,b1.alloc b1.size _⟩
  rw[Zu h2];have h2':(t.text == s)=false:=beq_eq_false_iff_ne.2 h2;go_enter Tryz.func140,Tryz.ntmps140;go_wp2_with (go_at_call 63;refine HQ.o.mono ?_;rintro e w1⟨rfl,b1⟩);exact bodyPost_ret (by simp[results,Tryz.results140,go_sem,h2']) rfl ⟨rfl,b1.alloc b1.size _⟩
 rw[Zu h1];have h1':(t.kind == kind)=false:=beq_eq_false_iff_ne.2 h1;clear h1;go_enter Tryz.func140,Tryz.ntmps140;go_wp2_with (go_at_call 63;refine HQ.o.mono ?_;rintro e w1⟨rfl,b1⟩);exact bodyPost_ret (by simp[results,Tryz.results140,go_sem]) rfl ⟨rfl,b1.alloc b1.size _⟩
theorem take_any{P k:Nat}{G:Hd}{p:Lfc.PE}(kind:Int)(s:List UInt8)(w:World)(h:PW w P G p k)(hk:k<=p.toks.length)(ok:POk p):Calls Tryz.prog 139 #[.pointer (some ⟨P,0,none⟩),zI kind,S s] w fun e w'=>e=.returned (.bool (p.is k kind s))/\PW w' P G p (if p.is k kind s then k+1 else k)/\Oth P w w':=by
 have hq:=is_any kind s w h hk ok;have hl:=h.lt;have hlen:=ok.len;have H:=zH h;cases hz:p.is k kind s
 ·rw[hz] at hq;have HQ:=zH hq;clear hq hz h;go_enter Tryz.func139,Tryz.ntmps139;go_wp2_with (go_at_call 140;refine HQ.o.mono ?_;rintro e w1⟨rfl,b1⟩);exact bodyPost_ret (by simp[results,Tryz.results139,go_sem]) rfl ⟨rfl,H.o.below b1,zE b1⟩
 rw[hz] at hq;have HQ:=zH hq;clear hq hz h;go_enter Tryz.func139,Tryz.ntmps139;go_wp2_with (go_at_call 140;refine HQ.o.mono ?_;rintro e w1⟨rfl,b1⟩;have h1:=H.o.below b1;obtain⟨hh,_⟩:=id h1;have x1:zc w1 P 1 (zI (k:Int)):=zC hh 1;have f1:=zF hh 1;have H1:=zH h1;clear h1 hh);have h2:=H1.o.step (k+1);rw[show((k+1:Nat):Int)=(k:Int)+1 by omega] at h2;exact bodyPost_ret (by simp[results,Tryz.results139,go_sem]) rfl ⟨rfl,h2,(zE b1).trans (Oth.set _ _)⟩
def _root_.Lfc.PE.ux(p:Lfc.PE)(k:Nat):Int × Nat:=if k=p.toks.length then(24,p.fin) else(20,(p.pk k).pos)
theorem unexp_eq{α:Type}(p:Lfc.PE)(k:Nat):(p.unexp k:Lfc.PR α)=.err (p.ux k).1 (p.ux k).2:=by
 unfold Lfc.PE.unexp Lfc.PE.ux;split <;> rfl
theorem unexpected_any{P k:Nat}{G:Hd}{p:Lfc.PE}(w:World)(h:PW w P G p k)(hk:k<=p.toks.length)(ok:POk p):Calls Tryz.prog 36 #[.pointer (some ⟨P,0,none⟩)] w fun e w'=>e=Flt (p.ux k).1 (p.ux k).2/\zb w w':=by
 have hq:=peek_any w.drew h.drew hk ok;have hl:=h.lt;obtain⟨A,c,B,d⟩:=G;obtain⟨hh,_⟩:=h;have hlen:=ok.len;have x0:zc w P 0 (.slice A p.toks.length c):=zC hh 0;have x1:zc w P 1 (zI (k:Int)):=zC hh 1;have x2:zc w P 2 (zI (p.fin:Int)):=zC hh 2;have HQ:=zH hq;clear hh hq ok;by_cases hz:k=p.toks.length
 ·have HX:Hid (p.ux k=(24,p.fin)):=zH (if_pos hz);rw[HX.o];rw[hz] at x1;clear hz hk;go_enter Tryz.func36,Tryz.ntmps36;go_wp2_with fail;go_region;go_wp2_with (go_at_call 66;refine(pfail_any _ _ _).mono ?_;rintro e w1⟨rfl,rfl⟩);exact⟨rfl,rfl,(zB _ _).drew⟩
 have HX:Hid (p.ux k=(20,(p.pk k).pos)):=zH (if_neg hz);rw[HX.o];have hf2:=tok_f2;go_enter Tryz.func36,Tryz.ntmps36;go_wp2_with fail;go_region;go_wp2_with (first | (go_at_call 66;refine(pfail_any _ _ _).mono ?_;rintro e w1⟨rfl,rfl⟩) | (go_at_call 63;refine HQ.o.mono ?_;rintro e w1⟨rfl,b1⟩));exact⟨rfl,rfl,(zB _ _).drew.trans (b1.mono (by simp))⟩
theorem punct_any{P k:Nat}{G:Hd}{p:Lfc.PE}(s:List UInt8)(w:World)(h:PW w P G p k)(hk:k<=p.toks.length)(ok:POk p):Calls Tryz.prog 141 #[.pointer (some ⟨P,0,none⟩),S s] w (PRes P G p w (fun _ v _=>v=.tuple #[]) (p.punct k s)):=by
 have hq:=take_any 2 s w h hk ok;unfold Lfc.PE.punct;rw[unexp_eq];cases hz:p.is k 2 s
 ·simp only[hz,if_true,Bool.false_eq_true,if_false] at hq;have HQ:=zH hq;have HU:Hid (∀W,PW W P G p k->Calls Tryz.prog 36 #[.pointer (some ⟨P,0,none⟩)] W fun e w'=>e=Flt (p.ux k).1 (p.ux k).2/\zb W w'):=zH fun W hW=>unexpected_any W hW hk ok;clear hq hz;go_enter Tryz.func141,Tryz.ntmps141;go_wp2_with (first | (go_at_call 139;refine HQ.o.mono ?_;rintro e w1⟨rfl,h1,o1⟩) | (go_at_call 36;refine(HU.o _ h1).mono ?_;rintro e w2⟨rfl,b2⟩));exact⟨rfl,rfl,o1.trans (zE b2)⟩
 simp only[hz,if_true,Bool.false_eq_true,if_false] at hq;have HQ:=zH hq;clear hq hz;go_enter Tryz.func141,Tryz.ntmps141;go_wp2_with (go_at_call 139;refine HQ.o.mono ?_;rintro e w1⟨rfl,h1,o1⟩)
 go_end0
 exact⟨⟨_,rfl,rfl⟩,h1,o1⟩
theorem isName_at{P k:Nat}{G:Hd}{p:Lfc.PE}(w:World)(h:PW w P G p k)(hk:k<=p.toks.length)(ok:POk p):Calls Tryz.prog 72 #[.pointer (some ⟨P,0,none⟩)] w fun e w'=>e=.returned (.bool (p.isNm k))/\zb w w':=by
 have hq:=peek_any w h hk ok;have hn:∀W,Calls Tryz.prog 80 #[S (p.pk k).text] W fun e w'=>e=.returned (.bool (isName (p.pk k).text))/\W=w':=fun W=>isName_any _ W (by
  rcases Nat.lt_or_ge k p.toks.length with h1 | h1
  ·have:=(ok.tok _ (List.mem_of_getElem? (PE.pk_of h1))).1;omega
  obtain rfl:k=p.toks.length:=by omega
  rw[PE.pk_end];simp)
 unfold Lfc.PE.isNm;generalize p.pk k=t at *;clear h ok hk;have HQ:=zH hq;have HN:=zH hn;clear hq hn;by_cases h1:t.kind=1
 ·have h1':(t.kind == 1)=true:=beq_iff_eq.2 h1;rw[Zt h1];clear h1;go_enter Tryz.func72,Tryz.ntmps72;go_wp2_with (first | (go_at_call 63;refine HQ.o.mono ?_;rintro e w1⟨rfl,b1⟩) | (go_at_call 80;refine(HN.o _).mono ?_;rintro e w2⟨rfl,rfl⟩));refine bodyPost_ret (by simp[results,Tryz.results72,go_sem];rfl) rfl ⟨by simp,b1.alloc b1.size _⟩
 have h1':(t.kind == 1)=false:=beq_eq_false_iff_ne.2 h1;rw[Zu h1];clear h1;go_enter Tryz.func72,Tryz.ntmps72;go_wp2_with (first | (go_at_call 63;refine HQ.o.mono ?_;rintro e w1⟨rfl,b1⟩) | (go_at_call 80;refine(HN.o _).mono ?_;rintro e w2⟨rfl,rfl⟩));refine bodyPost_ret (by simp[results,Tryz.results72,go_sem];rfl) rfl ⟨by simp,b1.alloc b1.size _⟩
theorem PW.cells{w:World}{P k:Nat}{G:Hd}{p:Lfc.PE}(h:PW w P G p k):w.cell? ⟨P,0,none⟩=some (.slice G.A p.toks.length G.c)∧w.cell? ⟨P,1,none⟩=some (.int .i64 (k:Int))∧w.cell? ⟨P,2,none⟩=some (.int .i64 (p.fin:Int))∧w.cell? ⟨P,3,none⟩=some (.slice G.B p.ops.length G.d) ∧
  (∀j,w.frozen? ⟨P,j,none⟩=false)∧p.toks.length≤G.c∧OpsAt w G.B p.ops∧(∀i,i<p.toks.length→∃b o,G.A=some ⟨b,o,none⟩∧b<w.heap.size∧w.cell? ⟨b,o+i*3,none⟩=some (.int .i64 (p.pk i).kind)∧w.cell? ⟨b,o+i*3+1,none⟩=some (S (p.pk i).text)∧w.cell? ⟨b,o+i*3+2,none⟩=some (.int .i64 ((p.pk i).pos:Int))):=by
 obtain⟨A,c,B,d⟩:=G;obtain⟨hh,⟨A',c',e',hc,ht⟩,ho⟩:=h;simp only at hh e' ho ⊢;cases e';refine⟨zC hh 0,zC hh 1,zC hh 2,zC hh 3,fun j=>zF hh j,hc,ho,fun i hi=>?_⟩;obtain⟨b,o,hA,hb,hcell⟩:=ht (by omega);obtain⟨t0,t1,t2⟩:=hcell i _ (PE.pk_of hi);exact⟨b,o,hA,hb,t0,t1,t2⟩
theorem name_at{P k:Nat}{G:Hd}{p:Lfc.PE}(w:World)(h:PW w P G p k)(hk:k<=p.toks.length)(ok:POk p):Calls Tryz.prog 138 #[.pointer (some ⟨P,0,none⟩)] w (PRes P G p w (fun n v _=>v=S n) (p.name k)):=by
 have hq:=isName_at w h hk ok;have hlen:=ok.len;unfold Lfc.PE.name;rw[unexp_eq];cases hz:p.isNm k
 ·simp only[hz,if_true,Bool.false_eq_true,if_false] at hq ⊢;have HQ:=zH hq;have H:=zH h;have HU:Hid (∀W,PW W P G p k->Calls Tryz.prog 36 #[.pointer (some ⟨P,0,none⟩)] W fun e w'=>e=Flt (p.ux k).1 (p.ux k).2/\zb W w'):=zH fun W hW=>unexpected_any W hW hk ok;clear hq hz;go_enter Tryz.func138,Tryz.ntmps138;go_wp2_with (first | (go_at_call 72;refine HQ.o.mono ?_;rintro e w1⟨rfl,b1⟩) | (go_at_call 36;refine(HU.o _ (H.o.below b1)).mono ?_;rintro e w2⟨rfl,b2⟩));exact⟨rfl,rfl,(zE b1).trans (zE b2)⟩
 have hlt:=p.nm_lt hz;simp only[hz,if_true,Bool.false_eq_true,if_false] at hq ⊢;have HQ:=zH hq;have H:=zH h;clear hq hz h ok;go_enter Tryz.func138,Tryz.ntmps138;go_upto_region 3 with(go_at_call 72;refine HQ.o.mono ?_;rintro e w1⟨rfl,b1⟩);have h1:=H.o.below b1;have h2:=h1.step (k+1);rw[show((k+1:Nat):Int)=(k:Int)+1 by omega] at h2;obtain⟨x0,x1,x2,x3,xf,_,_,_⟩:=h1.cells;have xf1:=xf 1;have o2:Oth P w1 (w1.setCell ⟨P,1,none⟩ (zI ((k:Int)+1))):=Oth.set w1 _;obtain⟨w2,hw2⟩:∃w2,w1.setCell ⟨P,1,none⟩ (zI ((k:Int)+1))=w2:=⟨_,rfl⟩;rw[hw2] at h2 o2;obtain⟨y0,y1,y2,y3,yf,hc,_,ht⟩:=h2.cells;obtain⟨b,o,hA,hb,t0,t1,t2⟩:=ht k hlt;rw[hA] at y0;have H2:=zH h2;have O2:=zH ((zE b1).trans o2);clear h1 h2 xf x0 x2 x3 y2 y3 yf ht t0 t2 o2 b1;rw[show((k+1:Nat):Int)=(k:Int)+1 by omega] at y1;go_wp2_with fail;go_region;go_wp2_with fail;exact bodyPost_ret (v:=S (p.pk k).text) (by simp[results,Tryz.results138,go_sem]) rfl ⟨⟨_,rfl,rfl⟩,H2.o.drew,O2.o.drew⟩
mutual
theorem TreeC.oth{w w':World}{P:Nat}(hn:∀j s,w.cell? ⟨P,j,none⟩≠some (S s))(ho:Oth P w w'):∀(t:Raw)(v0 v1 v2 v3:Value),TreeC w t v0 v1 v2 v3→TreeC w' t v0 v1 v2 v3
 |.node k n p ts,v0,v1,v2,v3,h=>by
  rw[TreeC] at h ⊢;obtain⟨h0,h1,hl,h2,A,c,h3,h4,h5⟩:=h;refine⟨h0,h1,hl,h2,A,c,h3,h4,fun hne=>?_⟩;obtain⟨b,o,hA,hlt,hts⟩:=h5 hne;have hb:b≠P:=fun e=>by
   match ts,hne with
   |.node k' n' p' us :: r,_ =>
    rw[TreesO] at hts;obtain⟨⟨u0,u1,u2,u3,_,c1,_,_,hu⟩,_⟩:=hts;rw[TreeC] at hu;obtain⟨_,e1,_⟩:=hu;rw[e,e1] at c1;exact hn _ _ c1
  exact⟨b,o,hA,Zl hlt ho.size,TreesO.oth hn ho ts b o hlt hb hts⟩
theorem TreesO.oth{w w':World}{P:Nat}(hn:∀j s,w.cell? ⟨P,j,none⟩≠some (S s))(ho:Oth P w w'):∀(ts:List Raw)(b o:Nat),b<w.heap.size→b≠P→TreesO w b ts o→TreesO w' b ts o
 |[],_,_,_,_,_=>by rw[TreesO];trivial
 |t :: r,b,o,hlt,hb,h=>by
  rw[TreesO] at h ⊢;obtain⟨⟨v0,v1,v2,v3,c0,c1,c2,c3,ht⟩,hr⟩:=h;exact⟨⟨v0,v1,v2,v3,(ho.cell (p:=⟨b,_,none⟩) hlt hb).trans c0,(ho.cell (p:=⟨b,_,none⟩) hlt hb).trans c1,(ho.cell (p:=⟨b,_,none⟩) hlt hb).trans c2,(ho.cell (p:=⟨b,_,none⟩) hlt hb).trans c3,TreeC.oth hn ho t v0 v1 v2 v3 ht⟩,TreesO.oth hn ho r b (o+4) hlt hb hr⟩
end
theorem TreeV.oth{w w':World}{P:Nat}{t:Raw}{v:Value}(h:TreeV w t v)(hn:∀j s,w.cell? ⟨P,j,none⟩≠some (S s))(ho:Oth P w w'):TreeV w' t v:=by
 obtain⟨v0,v1,v2,v3,rfl,h⟩:=h;exact⟨v0,v1,v2,v3,rfl,TreeC.oth hn ho t _ _ _ _ h⟩
theorem opd_sizeP:(Tryz.prog.info? 129).map (·.size)=some 5:=by kernel_rfl
theorem results_opdP{fn:Func}{p:Tmp}(h:fn.results=#[.cell p 129])(tmps:Array Value)(w:World)(g:Nat)(v0 v1 v2 v3 v4:Value)(hp:tmps.getD p undef=.pointer (some ⟨g,0,none⟩))(hg:w.heap[g]?=some (.cells #[v0,v1,v2,v3,v4] 129 (0,0))) :
  (results fn tmps).run Tryz.prog w=.ok (.agg #[v0,v1,v2,v3,v4]) w :=
 results_cell_row h tmps w g _ _ _ _ hp hg Tryz.underlying129 rfl opd_sizeP
theorem results_opdP2{fn:Func}{p u:Tmp}(h:fn.results=#[.cell p 129,.tmp u])(tmps:Array Value)(w:World)(g:Nat)(v0 v1 v2 v3 v4:Value)(hp:tmps.getD p undef=.pointer (some ⟨g,0,none⟩))(hg:w.heap[g]?=some (.cells #[v0,v1,v2,v3,v4] 129 (0,0))) :
  (results fn tmps).run Tryz.prog w=.ok (.tuple #[.agg #[v0,v1,v2,v3,v4],tmps.getD u undef]) w:=by
 rw[results_cell_tmp h,hp];simp[asAddr,run_loadVar_row w g _ _ _ _ _ hg Tryz.underlying129 rfl opd_sizeP,Result.andThen]
theorem put5p{W:World}{R:Nat}{a0 a1 a2 a3 a4:Value}{t:TypeId}(h:W.heap[R]?=some (.cells #[a0,a1,a2,a3,a4] t (0,0)))(v0 v1 v2 v3 v4:Value):∃s1 s2 s3 s4 s5,W.setCell ⟨R,0,none⟩ v0=s1∧s1.setCell ⟨R,1,none⟩ v1=s2∧s2.setCell ⟨R,2,none⟩ v2=s3∧s3.setCell ⟨R,3,none⟩ v3=s4∧s4.setCell ⟨R,4,none⟩ v4=s5 ∧
  (W.cell? ⟨R,0,none⟩=some a0∧s1.cell? ⟨R,1,none⟩=some a1∧s2.cell? ⟨R,2,none⟩=some a2∧s3.cell? ⟨R,3,none⟩=some a3∧s4.cell? ⟨R,4,none⟩=some a4) ∧
  (W.frozen? ⟨R,0,none⟩=false∧s1.frozen? ⟨R,1,none⟩=false∧s2.frozen? ⟨R,2,none⟩=false∧s3.frozen? ⟨R,3,none⟩=false∧s4.frozen? ⟨R,4,none⟩=false) ∧
  s5.heap[R]?=some (.cells #[v0,v1,v2,v3,v4] t (0,0))∧Oth R W s5:=by
 have st:∀(X:World)(b0 b1 b2 b3 b4 v:Value),X.heap[R]?=some (.cells #[b0,b1,b2,b3,b4] t (0,0))→(X.setCell ⟨R,0,none⟩ v).heap[R]?=some (.cells #[v,b1,b2,b3,b4] t (0,0))∧(X.setCell ⟨R,1,none⟩ v).heap[R]?=some (.cells #[b0,v,b2,b3,b4] t (0,0))∧(X.setCell ⟨R,2,none⟩ v).heap[R]?=some (.cells #[b0,b1,v,b3,b4] t (0,0))∧(X.setCell ⟨R,3,none⟩ v).heap[R]?=some (.cells #[b0,b1,b2,v,b4] t (0,0))∧(X.setCell ⟨R,4,none⟩ v).heap[R]?=some (.cells #[b0,b1,b2,b3,v] t (0,0)):=by
  intro X b0 b1 b2 b3 b4 v hX;refine⟨?_,?_,?_,?_,?_⟩ <;> simp[World.setCell,zM,hX]
 obtain⟨s1,e1⟩:∃s1,W.setCell ⟨R,0,none⟩ v0=s1:=⟨_,rfl⟩;obtain⟨s2,e2⟩:∃s2,s1.setCell ⟨R,1,none⟩ v1=s2:=⟨_,rfl⟩;obtain⟨s3,e3⟩:∃s3,s2.setCell ⟨R,2,none⟩ v2=s3:=⟨_,rfl⟩;obtain⟨s4,e4⟩:∃s4,s3.setCell ⟨R,3,none⟩ v3=s4:=⟨_,rfl⟩;obtain⟨s5,e5⟩:∃s5,s4.setCell ⟨R,4,none⟩ v4=s5:=⟨_,rfl⟩;have q1:=(st W a0 a1 a2 a3 a4 v0 h).1;rw[e1] at q1;have q2:=(st s1 _ _ _ _ _ v1 q1).2.1;rw[e2] at q2;have q3:=(st s2 _ _ _ _ _ v2 q2).2.2.1;rw[e3] at q3;have q4:=(st s3 _ _ _ _ _ v3 q3).2.2.2.1;rw[e4] at q4;have q5:=(st s4 _ _ _ _ _ v4 q4).2.2.2.2;rw[e5] at q5;refine⟨s1,s2,s3,s4,s5,e1,e2,e3,e4,e5,⟨zC h 0,zC q1 1,zC q2 2,zC q3 3,zC q4 4⟩,⟨zF h _,zF q1 _,zF q2 _,zF q3 _,zF q4 _⟩,q5,?_⟩;rw[←e5,←e4,←e3,←e2,←e1];exact((((Oth.set W v0).trans (Oth.set _ v1)).trans (Oth.set _ v2)).trans (Oth.set _ v3)).trans (Oth.set _ v4)
theorem Oth.over{P R:Nat}{w wb w':World}(h:Oth P w wb)(h':Oth R wb w')(hR:w.heap.size≤R):Oth P w w' :=
 ⟨h'.os.trans h.os,h'.tape.trans h.tape,h'.output.trans h.output,zR h.size h'.size,fun k hk hne=>(h'.block k (by have:=h.size;omega) (fun e=>by have:=zO e;omega)).trans (h.block k hk hne)⟩
theorem leaf_any{P R T k pos:Nat}{G:Hd}{p:Lfc.PE}(kind:Int)(n:List UInt8)(w:World)(h:PW w P G p k)(hk:k<p.toks.length)(ok:POk p)(hR:zc w R 0 (.pointer (some ⟨P,0,none⟩)))(hT:zc w T 2 (zI (pos:Int)))(hRl:R<w.heap.size)(hTl:T<w.heap.size)(hTP:T≠P) :
  Calls Tryz.prog 115 #[zI kind,S n,.pointer (some ⟨R,0,none⟩),.pointer (some ⟨T,0,none⟩)] w fun e w'=>e=.returned (.tuple #[.agg #[zI kind,S n,zI (pos:Int),zS,.bool false],.bool true])/\PW w' P G p (k+1)/\Oth P w w':=by
 have hlen:=ok.len;have hl:=h.lt;obtain⟨wa,hwa⟩:∃wa,w.alloc (.cells #[zI 0,S [],zI 0,zS,.bool false] 129)=wa:=⟨_,rfl⟩;have ba:=zG hwa;have qa:=zQ hwa;have hs:=eq2 (show wa.heap.size=w.heap.size+1 by rw[<-hwa];simp);have ha:=h.below ba;obtain⟨_,x1,_,_,xf,_,_,_⟩:=ha.cells;have f1:=xf 1;have r0:=(ba.cell (p:=⟨R,0,none⟩) hRl).trans hR;obtain⟨wb,hwb⟩:∃wb,wa.setCell ⟨P,1,none⟩ (zI ((k:Int)+1))=wb:=⟨_,rfl⟩;have hb:=ha.step (k+1);rw[show((k+1:Nat):Int)=(k:Int)+1 by omega,hwb] at hb;have ob:Oth P wa wb:=zV hwb;have t2:=((ob.cell (p:=⟨T,2,none⟩) (by simp only;omega) hTP).trans (ba.cell (p:=⟨T,2,none⟩) hTl)).trans hT;have qb:=ob.heap qa (by omega);obtain⟨s1,s2,s3,s4,s5,e1,e2,e3,e4,e5,⟨y0,y1,y2,y3,y4⟩,⟨f0,g1,f2,f3,f4⟩,hq,ho⟩:=put5p (W:=wb) qb (zI kind) (S n) (zI (pos:Int)) zS (.bool false);have o5:Oth P w s5:=((zE ba).trans ob).over ho (zN _);have h5:PW s5 P G p (k+1):=h.to o5 ((ho.block P (by have:=ob.size;omega) (fun e=>by have:=zO e;omega)).trans hb.1);have H5:=zH h5;have O5:=zH o5;have HQ:=zH hq;clear h5 o5 hq ho ob ba ha h hb qb qa hs;go_enter Tryz.func115,Tryz.ntmps115;go_upto_region 1 with fail;clear hwa;go_wp2_with fail;exact bodyPost_ret (results_opdP2 rfl _ _ _ _ _ _ _ _ rfl HQ.o) rfl ⟨rfl,H5.o,O5.o⟩
end
section
open Go.RowKit Go.Maps Go.WideMaps _root_.Lfc
theorem operator_any(w0:World)(Rb Mb:Nat)(l:List Lfc.Op)(x:Opd)(v:Value)(w:World)(hv:OpdV w x v)(h:EnvR w0 Rb Mb l w) :
  Calls Tryz.prog 192 #[.pointer (some ⟨Rb,0,none⟩),v] w fun e w'=>e=.returned (.tuple #[opV ((opOf l x).getD opZ),.bool (opOf l x).isSome])/\zb w w':=by
 obtain⟨⟨k,n,p,ts⟩,cl⟩:=x;obtain⟨k',n',p',ts',A,c,e,rfl,hT⟩:=hv;cases e;have hnn:=hT.name_le;obtain⟨wa,hwa⟩:∃wa,(w.alloc (.cells #[zI k,S n,zI p,.slice A ts.length c,.bool cl] 129)).alloc (.cells #[S [],zI 0,zI 0] 34)=wa:=⟨_,rfl⟩;have ba:zb w wa:=by rw[<-hwa];exact((zB _ _).alloc (zN _) _).alloc (by simp) _
 have qo:zk wa w.heap.size #[zI k,S n,zI p,.slice A ts.length c,.bool cl] 129:=by rw[<-hwa];exact heap_alloc_old _ _ _ _ (zW _ _)
 have qr:wa.heap[w.heap.size+1]?=some (.cells #[S [],zI 0,zI 0] 34 (0,0)):=by
  rw[<-hwa];have:=zW (w.alloc (.cells #[zI k,S n,zI p,.slice A ts.length c,.bool cl] 129)) (.cells #[S [],zI 0,zI 0] 34);simpa using this
 have hsa:=eq2 (show wa.heap.size=w.heap.size+2 by rw[<-hwa];simp);have x0:zc wa w.heap.size 0 (zI k):=zC qo 0;have x1:zc wa w.heap.size 1 (S n):=zC qo 1;have x4:zc wa w.heap.size 4 (.bool cl):=zC qo 4;have HE:=zH (h.new ba);have BA:=zH ba;have QR:=zH qr;have QO:=zH qo;clear qo hT h ba;by_cases hc:cl=true\/k≠1
 ·have he:opOf l ⟨.node k n p ts,cl⟩=none:=by
   unfold opOf;rw[if_pos];rcases hc with h1 | h1
   ·simp[h1]
   simp[Raw.kind,h1]
  rw[he];obtain⟨s1,s2,s3,g1,g2,g3,⟨y0,y1,y2⟩,⟨f0,f1,f2⟩,hq,ho⟩:=put3 qr (S []) (zI 0) (zI 0);have HQ:=zH hq;have HO:=zH ho;clear hq ho qr he;cases cl
  ·have hk:¬k=1:=(by simpa using hc);have hk2:(k != 1)=true:=(by simpa using hk);clear hc hk;go_enter Tryz.func192,Tryz.ntmps192;go_upto_region 1 with fail;clear hwa;go_wp2_with fail;refine Zb (results_op2 rfl _ _ _ _ _ _ rfl HQ.o) ?_;exact⟨rfl,Oth.below BA.o HO.o (by omega) (by omega)⟩
  clear hc;go_enter Tryz.func192,Tryz.ntmps192;go_upto_region 1 with fail;clear hwa;go_wp2_with fail;refine Zb (results_op2 rfl _ _ _ _ _ _ rfl HQ.o) ?_;exact⟨rfl,Oth.below BA.o HO.o (by omega) (by omega)⟩
 obtain rfl:cl=false:=by cases cl;rfl;exact absurd (.inl rfl) hc
 obtain rfl:k=1:=by
  by_cases e:k=1
  ·exact e
  exact absurd (.inr e) hc
 clear hc;have he:opOf l ⟨.node 1 n p ts,false⟩=Lfc.look l n:=by
  unfold opOf;rw[if_neg (by simp[Raw.kind])];rfl
 rw[he];clear he;obtain⟨N,hm⟩:=HE.o.map;have hm2:=hm.kept (World.grownBy_alloc wa (.cells #[S [],zI 0,zI 0] 34) none) (by simp);have hlk1:(Instr.lookup 172 (.map (some Mb)) (S n) true).run Tryz.prog wa.drew=.ok (.tuple #[opV ((Lfc.look l n).getD opZ),.bool (Lfc.look l n).isSome]) wa.drew:=OpMap.look (w:=wa.drew) hm n hnn;have hlk2:(Instr.lookup 172 (.map (some Mb)) (S n) true).run Tryz.prog (wa.alloc (.cells #[S [],zI 0,zI 0] 34)).drew=.ok (.tuple #[opV ((Lfc.look l n).getD opZ),.bool (Lfc.look l n).isSome]) (wa.alloc (.cells #[S [],zI 0,zI 0] 34)).drew:=OpMap.look (w:=(wa.alloc (.cells #[S [],zI 0,zI 0] 34)).drew) hm2 n hnn;have m0:=HE.o.m0;have hrb:=HE.o.lt;have r1:(wa.alloc (.cells #[S [],zI 0,zI 0] 34)).cell? ⟨Rb,0,none⟩=some (.map (some Mb)):=(World.cell?_of_block (zA wa _ _ hrb)).trans m0;have r2:(wa.alloc (.cells #[S [],zI 0,zI 0] 34)).cell? ⟨w.heap.size,1,none⟩=some (S n):=(World.cell?_of_block (zA wa _ _ (by simp only;omega))).trans x1;clear hm hm2;unfold opV at hlk1 hlk2 ⊢;generalize hO:(Lfc.look l n).getD opZ=o at *;generalize (Lfc.look l n).isSome=f at *;obtain⟨on,of,op⟩:=o;simp only at hlk1 hlk2 ⊢;clear hO;go_enter Tryz.func192,Tryz.ntmps192;go_upto_region 1 with fail;clear hwa;go_wp2_with fail;go_region_held3 (fun W=>W.cell? ⟨Rb,0,none⟩=some (.map (some Mb))/\W.cell? ⟨w.heap.size,1,none⟩=some (S n))
  (first | exact⟨m0,x1⟩ | exact⟨r1,r2⟩ | go_keep)
  (fail)
 all_goals
  obtain⟨wz,hwz⟩:∃wz,(wa.alloc (.cells #[S on,zI of,zI op] 34)).drew=wz:=⟨_,rfl⟩;have bz:zb wa wz:=by rw[<-hwz];exact((zB _ _).alloc (zN _) _).drew
  have qz:zk wz wa.heap.size #[S on,zI of,zI op] 34:=by rw[<-hwz];exact zW _ _
  obtain⟨u0,u1,u2⟩:=cells3 qz;obtain⟨s1,s2,s3,g1,g2,g3,⟨y0,y1,y2⟩,⟨f0,f1,f2⟩,hq,ho⟩:=put3 ((bz.block _ (zL QR.o)).trans QR.o) (S on) (zI of) (zI op);have HQ:=zH hq;have HO:=zH ho;have BZ:=zH bz;have hsz:=bz.size;clear hq ho bz qz qr hlk1 hlk2;go_upto_region 4 with fail;rw[hwz];clear hwz;go_wp2_with fail;refine Zb (results_op2 rfl _ _ _ _ _ _ rfl HQ.o) ?_;exact⟨rfl,Oth.below (BA.o.trans (BZ.o.mono (by omega))) HO.o (by omega) (by omega)⟩
end
end Go.Proofs.YthajalgkjonaaaaGreatDoor
namespace Lfc
theorem rising_len:∀(l:List Nat)(a n:Nat),l.Pairwise (· < ·)→(∀i∈l,a≤i∧i<n)→l.length≤n-a
 |[],_,_,_,_=>by simp
 |x :: r,a,n,hp,hb=>by
  rw[List.pairwise_cons] at hp;have hx:=hb x List.mem_cons_self;have:=rising_len r (x+1) n hp.2 (fun i hi=>⟨hp.1 i hi,(hb i (List.mem_cons_of_mem _ hi)).2⟩);simp only[List.length_cons];omega
theorem places_len{n:Nat}{l:List Nat}(h:Places n l):l.length≤n:=by
 have:=rising_len l 0 n h.1 (fun i hi=>⟨Nat.zero_le _,h.2 i hi⟩);simpa using this
theorem lowStep_new(L:LowS)(j:Nat)(o:Op)(h:L.at_.length=0∨o.prec<L.first.prec):lowStep L j (some o)=⟨[j],o,true⟩:=if_pos h
theorem lowStep_more(L:LowS)(j:Nat)(o:Op)(h:¬(L.at_.length=0∨o.prec<L.first.prec))(h2:o.prec=L.first.prec):lowStep L j (some o)=⟨L.at_++[j],L.first,L.same && decide (o.fix=L.first.fix)⟩:=(if_neg h).trans (if_pos h2)
theorem lowStep_not(L:LowS)(j:Nat)(o:Op)(h:¬(L.at_.length=0∨o.prec<L.first.prec))(h2:¬o.prec=L.first.prec):lowStep L j (some o)=L:=(if_neg h).trans (if_neg h2)
end Lfc
namespace Go.Proofs.YthajalgkjonaaaaGreatDoor
open Go.RowKit Go.Maps Go.WideMaps _root_.Lfc
def natCells(l:List Nat):List Value:=l.map fun(i:Nat)=>Value.int .i64 (i:Int)
theorem info_int:∃i,Tryz.prog.info? 3=some i∧i.zero=some (.int .i64 0)∧i.size=1∧i.bytes=8:=by
 obtain⟨i0,hi,hz0,hz1,hz2⟩:=info_parts (show(Tryz.prog.info? 3).map (fun i=>(i.zero,i.size,i.bytes))=some (some (.int .i64 0),1,8) by kernel_rfl);exact⟨i0,hi,hz0,hz1,hz2⟩
theorem own_mono{w:World}{b b':Nat}{e:TypeId}{size n:Nat}{v:Value}{xs:List Value}(h:w.ownsRow b e size v n xs)(hb:b'≤b):w.ownsRow b' e size v n xs:=by
 refine⟨h.1,?_⟩;rcases h.2 with hn | ⟨g,cap,cur,hv,hbg,rest⟩
 ·exact .inl hn
 exact .inr ⟨g,cap,cur,hv,zR hb hbg,rest⟩
structure LowI(w:World)(L:LowS)(v:Value)(wr:World):Prop where
 own:wr.ownsRow (w.heap.size+1) 3 1 v L.at_.length (natCells L.at_)
 first:wr.heap[w.heap.size]?=some (.cells #[S L.first.name,.int .i64 L.first.fix,.int .i64 L.first.prec] 34 (0,0))
 bel:Below w.heap.size w wr
theorem LowI.new{w wr w':World}{L:LowS}{v:Value}(h:LowI w L v wr)(hb:Below wr.heap.size wr w'):LowI w L v w' :=
 ⟨own_below h.own hb,(hb.block _ (zL h.first)).trans h.first,h.bel.trans (hb.mono h.bel.size)⟩
theorem lowest_any(w0:World)(Rb Mb:Nat)(l:List Lfc.Op)(s:List Opd)(A:Option Addr)(c:Nat)(w:World)(hl:s.length<=1000000000)(hs:OpdsAt w0 A s)(h:EnvR w0 Rb Mb l w) :
  Calls Tryz.prog 168 #[.pointer (some ⟨Rb,0,none⟩),.slice A s.length c] w fun e w'=>∃A' c',e=.returned (.tuple #[.slice A' (low l s).at_.length c',opV (low l s).first,.bool (low l s).same])/\Hid (w'.ownsRow w.heap.size 3 1 (.slice A' (low l s).at_.length c') (low l s).at_.length (natCells (low l s).at_))/\zb w w':=by
 obtain⟨i0,hi,hz0,hz1,hz2⟩:=info_int;have HS:=zH hs;have HE:=zH h;have HPL:=zH (fun j (hj:j<=s.length)=>low_places l s j hj);have HSUC:=zH (fun j (hj:j<s.length)=>low_succ l s j hj);obtain⟨wa,hwa⟩:∃wa,w.alloc (.cells #[S [],zI 0,zI 0] 34)=wa:=⟨_,rfl⟩;have L0:Hid (LowI w lowZ zS wa):=by
  rw[<-hwa];exact zH ⟨(own_nil _ _ _ _:World.ownsRow _ _ _ _ zS 0 []),zW _ _,(zB _ _).alloc (zN _) _⟩
 clear hs h;go_enter Tryz.func168,Tryz.ntmps168;go_upto_region 1 with fail;clear hwa;go_wp2_with fail;go_loopw [4,6,13] (fun v b i wr=>∃j:Nat,j<=s.length/\i=zI j/\∃(L:LowS)(A':Option Addr)(c':Nat),Hid (L=low l (s.take j))/\v=.slice A' L.at_.length c'/\b=.bool L.same/\Hid (LowI w L v wr)) (fun _ _ i _=>s.length-(intOf i).toNat);case atStart=>exact⟨0,by omega,rfl,lowZ,none,0,zH (by simp[low,lowN]),rfl,rfl,L0⟩
 obtain⟨j,hj,rfl,L,A',c',HL,rfl,rfl,HI⟩:=hrel;by_cases hlt:j<s.length
 ·obtain⟨b,o,k,n,p,ts,B,c1,rfl,hb,ht,d0,d1,d2,d3,d4,hT⟩:=(HS.o.below (HE.o.bel.trans (HI.o.bel.mono HE.o.bel.size))).at_ hlt;obtain⟨w3,hw3⟩:∃w3,wr.alloc (.cells #[zI k,S n,zI p,.slice B ts.length c1,.bool s[j].closed] 129)=w3:=⟨_,rfl⟩;have b3:=zG hw3;have q3:=zQ hw3;have HOP:=zH (operator_any w0 Rb Mb l s[j] _ w3 ⟨k,n,p,ts,B,c1,ht,rfl,hT.below b3⟩ (HE.o.new (HI.o.bel.trans (b3.mono HI.o.bel.size))));have HST:=HSUC.o j hlt;rw[<-HL.o] at HST;have HSTEP:=zH HST;have x0:zc w3 wr.heap.size 0 (zI k):=zC q3 0;have x1:zc w3 wr.heap.size 1 (S n):=zC q3 1;have x2:zc w3 wr.heap.size 2 (zI p):=zC q3 2;have x3:zc w3 wr.heap.size 3 (.slice B ts.length c1):=zC q3 3;have x4:zc w3 wr.heap.size 4 (.bool s[j].closed):=zC q3 4;have HW3:=zH hw3;have I3:=zH (HI.o.new b3);have hpl:=(HPL.o j hj);rw[<-HL.o] at hpl;have hatl:L.at_.length<=j:=places_len hpl;have hi0:=zP j;have hi1:(j:Int)<(s.length:Int):=by omega
  generalize hcl:s[j].closed=cl at *;generalize hop:opOf l s[j]=oo at *;clear hT b3 q3 hw3 HST ht hcl hop hpl;go_upto_region 4 with fail;rw[HW3.o];go_wp2_with fail;refine HOP.o.mono ?_;rintro e w4⟨rfl,b4⟩;have I4:=zH (I3.o.new b4);clear x0 x1 x2 x3 x4 d0 d1 d2 d3 d4 I3 b4;cases oo with
  |none =>
   simp only[Option.getD_none,Option.isSome_none] at *;obtain⟨w5,hw5⟩:∃w5,w4.alloc (.cells #[S [],zI 0,zI 0] 34)=w5:=⟨_,rfl⟩;have I5:Hid (LowI w L (.slice A' L.at_.length c') w5):=(by rw[<-hw5];exact zH (I4.o.new ((zB _ _).alloc (zN _) _)));have HW5:=zH hw5;have hsame:Hid (L=low l (s.take (j+1))):=zH (by rw[HSTEP.o];rfl);unfold opV opZ;clear hw5;go_upto_region 5 with fail;rw[HW5.o];go_wp2_with fail;go_roundw;case rel=>exact⟨j+1,by omega,by go_num,L,A',c',hsame,rfl,rfl,I5⟩
   case measure=>simp[intOf];omega
  |some oo =>
   simp only[Option.getD_some,Option.isSome_some] at *;obtain⟨on,of,op⟩:=oo;obtain⟨w5,hw5⟩:∃w5,w4.alloc (.cells #[S on,zI of,zI op] 34)=w5:=⟨_,rfl⟩;have I5:Hid (LowI w L (.slice A' L.at_.length c') w5):=(by rw[<-hw5];exact zH (I4.o.new ((zB _ _).alloc (zN _) _)));have q5:=zQ hw5;have hw45:=zL q5;have hw4s:w.heap.size<w4.heap.size:=zL I4.o.first;obtain⟨u0,u1,u2⟩:=cells3 q5;obtain⟨t0,t1,t2⟩:=cells3 I5.o.first;have HW5:=zH hw5;unfold opV;simp only;clear hw5 q5;go_upto_region 5 with fail;rw[HW5.o];by_cases hcase:L.at_.length=0\/op<L.first.prec
   ·by_cases ha:L.at_.length=0;have ha2:((L.at_.length:Int) == 0)=true:=by simp[ha]
    rotate_left
    have ha2:((L.at_.length:Int) == 0)=false:=(by simp;intro e;exact ha (by simp[e]));have hlt2:op<L.first.prec:=(by omega);have hlt3:decide (op<L.first.prec)=true:=(by simpa using hlt2);all_goals
     have HA:=zH ha;clear ha;have hL2:Hid ((⟨[j],⟨on,of,op⟩,true⟩:LowS)=low l (s.take (j+1))):=zH (by rw[HSTEP.o,lowStep_new _ _ _ hcase]);obtain⟨s1,s2,s3,g1,g2,g3,⟨y0,y1,y2⟩,⟨f0,f1,f2⟩,hq,ho⟩:=put3 (W:=(w5.alloc (.cells #[zI (j:Int)] 3)).drew) (heap_alloc_old _ _ _ _ I5.o.first) (S on) (zI of) (zI op);have HN:Hid (LowI w ⟨[j],⟨on,of,op⟩,true⟩ (.slice (some ⟨w5.heap.size,0,none⟩) 1 1) s3):=by
      have bz:zb w5 (w5.alloc (.cells #[zI (j:Int)] 3)).drew:=((zB _ _).alloc (zN _) _).drew;have hsz:=I5.o.bel.size;have hf:=zL I5.o.first;have qn:zk s3 w5.heap.size #[zI (j:Int)] 3:=ho.heap (zW w5 _) (by omega);refine zH ⟨⟨rfl,.inr ⟨w5.heap.size,1,_,rfl,by omega,qn,zN _,by unfold maxLen;omega,rfl,rfl⟩⟩,hq,Oth.below (I5.o.bel.trans (bz.mono hsz)) ho (zN _) (by have:=bz.size;omega)⟩
     have r0:zc s3 w4.heap.size 0 (S on):=(ho.cell (p:=⟨w4.heap.size,0,none⟩) (by simp;omega) (by simp only;omega)).trans ((World.cell?_of_block (zA w5 _ _ hw45)).trans u0);have r1:zc s3 w4.heap.size 1 (zI of):=(ho.cell (p:=⟨w4.heap.size,1,none⟩) (by simp;omega) (by simp only;omega)).trans ((World.cell?_of_block (zA w5 _ _ hw45)).trans u1);have r2:zc s3 w4.heap.size 2 (zI op):=(ho.cell (p:=⟨w4.heap.size,2,none⟩) (by simp;omega) (by simp only;omega)).trans ((World.cell?_of_block (zA w5 _ _ hw45)).trans u2);clear hq ho;go_wp2_with fail;go_region_held3 (fun W=>W.cell? ⟨w4.heap.size,0,none⟩=some (S on)/\W.cell? ⟨w4.heap.size,1,none⟩=some (zI of)/\W.cell? ⟨w4.heap.size,2,none⟩=some (zI op))
      (first | exact⟨u0,u1,u2⟩ | exact⟨r0,r1,r2⟩ | go_keep)
      (fail)
     all_goals
      go_wp2_with fail;go_roundw;case rel=>exact⟨j+1,by omega,by go_num,⟨[j],⟨on,of,op⟩,true⟩,some ⟨w5.heap.size,0,none⟩,1,hL2,rfl,rfl,HN⟩
      case measure=>simp[intOf];omega
   have ha:¬L.at_.length=0:=fun e=>hcase (.inl e);have ha2:((L.at_.length:Int) == 0)=false:=(by simp;intro e;exact ha (by simp[e]));have hlt2:¬op<L.first.prec:=fun e=>hcase (.inr e);have hlt3:decide (op<L.first.prec)=false:=(by simpa using hlt2);have HA:=zH ha;clear ha;by_cases hpe:op=L.first.prec
   ·have hpe2:(op == L.first.prec)=true:=(by simpa using hpe);have HPE:=zH hpe;cases hsm:L.same
    ·have HSM:=zH hsm;have hL2':(false && decide (of=L.first.fix))=false:=(by simp);have hlm:L.at_.length+1<=maxLen:=(by unfold maxLen;omega);have hl8:(L.at_.length+1)*8<=140737488355328:=(by omega);have hL2:Hid ((⟨L.at_++[j],L.first,false⟩:LowS)=low l (s.take (j+1))):=zH (by rw[HSTEP.o,lowStep_more _ _ _ hcase hpe];simp[HSM.o]);go_wp2_with (at_builtin;refine wpList_append_own_at _ rfl _ _ 22 rfl (w.heap.size+1) 3 i0 (zI 0) 1 8 Tryz.underlying22 hi hz0 hz1 hz2 rfl (by decide) _ _ _ rfl (I5.o.own.alloc _) ⟨w5.heap.size,0,none⟩ 1 1 [zI (j:Int)] rfl rfl (cell_one_new _ _ _) (by intro u hu;simp at hu;subst hu;rfl) hlm hl8 (alloc_le (by have:=zL I5.o.first;omega)) ?_);intro v' w6 hown6 hg6 _ _;obtain⟨A6,c6,rfl⟩:=own_form hown6;have HN:Hid (LowI w ⟨L.at_++[j],L.first,false⟩ (.slice A6 (L.at_++[j]).length c6) w6):=by
      have hf:=zL I5.o.first;have e:natCells (L.at_++[j])=natCells L.at_++[zI (j:Int)]:=(by simp[natCells]);have bz:zb w5 (w5.alloc (.cells #[zI (j:Int)] 3)):=(zB _ _).alloc (zN _) _;refine zH ⟨by rw[e,Zq];exact hown6,?_,(I5.o.bel.trans (bz.mono I5.o.bel.size)).grown hg6 (by have:=bz.size;omega) (fun k hk=>by have:=own_block_ge I5.o.own k hk;omega)⟩;rw[hg6.block _ (by simp;omega) (fun e=>by have:=own_block_ge I5.o.own _ e.symm;omega)];exact heap_alloc_old _ _ _ _ I5.o.first
     have HLN:=zH (Zq:(L.at_++[j]).length=_);have z0:zc w6 w.heap.size 1 (zI L.first.fix):=(cells3 HN.o.first).2.1;have z1:w6.cell? ⟨w4.heap.size,1,none⟩=some (zI of):=by
      have hne:some w4.heap.size≠(Value.slice A' L.at_.length c').ownBlock:=fun e=>by
       have:=(I4.o.own.lt _ e.symm).2;omega
      rw[World.cell?_of_block (a:=⟨w4.heap.size,1,none⟩) (hg6.block _ (by simp;omega) hne),World.cell?_of_block (a:=⟨w4.heap.size,1,none⟩) (zA w5 _ _ hw45)];exact u1
     clear hown6 hg6;go_wp2_with fail;go_roundw;case rel=>exact⟨j+1,by omega,by go_num,⟨L.at_++[j],L.first,false⟩,A6,c6,hL2,by simp,by simp[*],by first | exact HN | (rw[HLN.o] at HN;exact HN)⟩
     case measure=>simp[intOf];omega
    have HSM:=zH hsm;by_cases hfe:of=L.first.fix
    ·have hfe2:(of == L.first.fix)=true:=(by simpa using hfe);have hlm:L.at_.length+1<=maxLen:=(by unfold maxLen;omega);have hl8:(L.at_.length+1)*8<=140737488355328:=(by omega);have hL2:Hid ((⟨L.at_++[j],L.first,true⟩:LowS)=low l (s.take (j+1))):=zH (by rw[HSTEP.o,lowStep_more _ _ _ hcase hpe];simp[HSM.o,hfe]);go_wp2_with (at_builtin;refine wpList_append_own_at _ rfl _ _ 22 rfl (w.heap.size+1) 3 i0 (zI 0) 1 8 Tryz.underlying22 hi hz0 hz1 hz2 rfl (by decide) _ _ _ rfl (I5.o.own.alloc _) ⟨w5.heap.size,0,none⟩ 1 1 [zI (j:Int)] rfl rfl (cell_one_new _ _ _) (by intro u hu;simp at hu;subst hu;rfl) hlm hl8 (alloc_le (by have:=zL I5.o.first;omega)) ?_);intro v' w6 hown6 hg6 _ _;obtain⟨A6,c6,rfl⟩:=own_form hown6;have HN:Hid (LowI w ⟨L.at_++[j],L.first,true⟩ (.slice A6 (L.at_++[j]).length c6) w6):=by
      have hf:=zL I5.o.first;have e:natCells (L.at_++[j])=natCells L.at_++[zI (j:Int)]:=(by simp[natCells]);have bz:zb w5 (w5.alloc (.cells #[zI (j:Int)] 3)):=(zB _ _).alloc (zN _) _;refine zH ⟨by rw[e,Zq];exact hown6,?_,(I5.o.bel.trans (bz.mono I5.o.bel.size)).grown hg6 (by have:=bz.size;omega) (fun k hk=>by have:=own_block_ge I5.o.own k hk;omega)⟩;rw[hg6.block _ (by simp;omega) (fun e=>by have:=own_block_ge I5.o.own _ e.symm;omega)];exact heap_alloc_old _ _ _ _ I5.o.first
     have HLN:=zH (Zq:(L.at_++[j]).length=_);have z0:zc w6 w.heap.size 1 (zI L.first.fix):=(cells3 HN.o.first).2.1;have z1:w6.cell? ⟨w4.heap.size,1,none⟩=some (zI of):=by
      have hne:some w4.heap.size≠(Value.slice A' L.at_.length c').ownBlock:=fun e=>by
       have:=(I4.o.own.lt _ e.symm).2;omega
      rw[World.cell?_of_block (a:=⟨w4.heap.size,1,none⟩) (hg6.block _ (by simp;omega) hne),World.cell?_of_block (a:=⟨w4.heap.size,1,none⟩) (zA w5 _ _ hw45)];exact u1
     clear hown6 hg6;go_wp2_with fail;go_roundw;case rel=>exact⟨j+1,by omega,by go_num,⟨L.at_++[j],L.first,true⟩,A6,c6,hL2,by simp,by simp[*],by first | exact HN | (rw[HLN.o] at HN;exact HN)⟩
     case measure=>simp[intOf];omega
    have hfe2:(of == L.first.fix)=false:=(by simpa using hfe);have hlm:L.at_.length+1<=maxLen:=(by unfold maxLen;omega);have hl8:(L.at_.length+1)*8<=140737488355328:=(by omega);have hL2:Hid ((⟨L.at_++[j],L.first,false⟩:LowS)=low l (s.take (j+1))):=zH (by rw[HSTEP.o,lowStep_more _ _ _ hcase hpe];simp[HSM.o,hfe]);go_wp2_with (at_builtin;refine wpList_append_own_at _ rfl _ _ 22 rfl (w.heap.size+1) 3 i0 (zI 0) 1 8 Tryz.underlying22 hi hz0 hz1 hz2 rfl (by decide) _ _ _ rfl (I5.o.own.alloc _) ⟨w5.heap.size,0,none⟩ 1 1 [zI (j:Int)] rfl rfl (cell_one_new _ _ _) (by intro u hu;simp at hu;subst hu;rfl) hlm hl8 (alloc_le (by have:=zL I5.o.first;omega)) ?_);intro v' w6 hown6 hg6 _ _;obtain⟨A6,c6,rfl⟩:=own_form hown6;have HN:Hid (LowI w ⟨L.at_++[j],L.first,false⟩ (.slice A6 (L.at_++[j]).length c6) w6):=by
     have hf:=zL I5.o.first;have e:natCells (L.at_++[j])=natCells L.at_++[zI (j:Int)]:=(by simp[natCells]);have bz:zb w5 (w5.alloc (.cells #[zI (j:Int)] 3)):=(zB _ _).alloc (zN _) _;refine zH ⟨by rw[e,Zq];exact hown6,?_,(I5.o.bel.trans (bz.mono I5.o.bel.size)).grown hg6 (by have:=bz.size;omega) (fun k hk=>by have:=own_block_ge I5.o.own k hk;omega)⟩;rw[hg6.block _ (by simp;omega) (fun e=>by have:=own_block_ge I5.o.own _ e.symm;omega)];exact heap_alloc_old _ _ _ _ I5.o.first
    have HLN:=zH (Zq:(L.at_++[j]).length=_);have z0:zc w6 w.heap.size 1 (zI L.first.fix):=(cells3 HN.o.first).2.1;have z1:w6.cell? ⟨w4.heap.size,1,none⟩=some (zI of):=by
     have hne:some w4.heap.size≠(Value.slice A' L.at_.length c').ownBlock:=fun e=>by
      have:=(I4.o.own.lt _ e.symm).2;omega
     rw[World.cell?_of_block (a:=⟨w4.heap.size,1,none⟩) (hg6.block _ (by simp;omega) hne),World.cell?_of_block (a:=⟨w4.heap.size,1,none⟩) (zA w5 _ _ hw45)];exact u1
    clear hown6 hg6;go_wp2_with fail;go_roundw;case rel=>exact⟨j+1,by omega,by go_num,⟨L.at_++[j],L.first,false⟩,A6,c6,hL2,by simp,by simp[*],by first | exact HN | (rw[HLN.o] at HN;exact HN)⟩
    case measure=>simp[intOf];omega
   have hpe2:(op == L.first.prec)=false:=(by simpa using hpe);have hL2:Hid (L=low l (s.take (j+1))):=zH (by rw[HSTEP.o,lowStep_not _ _ _ hcase hpe]);go_wp2_with fail;go_roundw;case rel=>exact⟨j+1,by omega,by go_num,L,A',c',hL2,rfl,rfl,I5⟩
   case measure=>simp[intOf];omega
 have hjl:j=s.length:=by omega
 have HL2:Hid (L=low l s):=zH (by rw[HL.o,hjl,List.take_length]);obtain⟨t0,t1,t2⟩:=cells3 HI.o.first;obtain⟨s1,s2,s3,g1,g2,g3,⟨y0,y1,y2⟩,⟨f0,f1,f2⟩,hq,ho⟩:=put3 (W:=wr.drew) HI.o.first (S L.first.name) (zI L.first.fix) (zI L.first.prec);have HO:=zH ho;have HQ:=zH hq;obtain⟨e0,e1,e2⟩:=cells3 hq;clear hq ho;have hfin:∀x y,x=Ending.returned (.tuple #[.slice A' L.at_.length c',.agg #[S L.first.name,zI L.first.fix,zI L.first.prec],.bool L.same])->y=s3->∃A' c',x=.returned (.tuple #[.slice A' (low l s).at_.length c',opV (low l s).first,.bool (low l s).same])/\Hid (y.ownsRow w.heap.size 3 1 (.slice A' (low l s).at_.length c') (low l s).at_.length (natCells (low l s).at_))/\zb w y:=fun x y hx hy=>by
  subst hx hy;rw[<-HL2.o];refine⟨A',c',rfl,zH (own_mono (World.ownsRow.kept (w:=wr.drew) HI.o.own.drew HO.o (Or.inr (fun e=>by have:=own_block_ge HI.o.own _ e;omega))) (by omega)),Oth.below HI.o.bel.drew HO.o (zN _) HI.o.bel.size⟩
 have HF:=zH hfin;clear hfin;go_wp2_with fail;go_region_held3 (fun W=>W.cell? ⟨w.heap.size,0,none⟩=some (S L.first.name)/\W.cell? ⟨w.heap.size,1,none⟩=some (zI L.first.fix)/\W.cell? ⟨w.heap.size,2,none⟩=some (zI L.first.prec))
  (first | exact⟨t0,t1,t2⟩ | exact⟨e0,e1,e2⟩)
  (fail)
 all_goals
  go_wp2_with fail;refine Zb (results_op3 rfl _ _ _ _ _ _ rfl HQ.o) ?_;exact HF.o _ _ rfl rfl
end Go.Proofs.YthajalgkjonaaaaGreatDoor
