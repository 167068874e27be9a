/- Parts of the proof that no input makes the law false: PaOpd,PaTxt,PaMdT,PaTxt2,OpLow,OpLow2. -/
import Derived.Great.BuildSlice
import Derived.Test.YthajalgkjonaaaaGreatDoorQxAB
import Derived.Test.YthajalgkjonaaaaGreatDoorQxAE
import Derived.Test.YthajalgkjonaaaaGreatDoorQxAG
import Derived.Test.YthajalgkjonaaaaGreatDoorQxAH
import Derived.Test.YthajalgkjonaaaaGreatDoorQxAI
set_option linter.unusedVariables false
set_option linter.unusedSimpArgs false
namespace Go.Proofs.YthajalgkjonaaaaGreatDoor
open Go.RowKit
mutual
theorem TreeC.oth{w w':World}{P:Nat}(hn:∀j s,w.cell? ⟨P,j,none⟩≠some (S s))(ho:Oth P w w'):∀(t:Lfc.Raw)(v0 v1 v2 v3:Value),TreeC w t v0 v1 v2 v3→TreeC w' t v0 v1 v2 v3
 | .node k n p ts, v0, v1, v2, v3, h => by
  rw[TreeC] at h ⊢
  obtain⟨h0,h1,hl,h2,A,c,h3,h4,h5⟩:=h
  refine⟨h0,h1,hl,h2,A,c,h3,h4,fun hne=>?_⟩
  obtain⟨b,o,hA,hlt,hts⟩:=h5 hne
  have hb:b≠P:=fun e=>by
   match ts,hne with
   |.node k' n' p' us :: r,_ =>
    rw[TreesO] at hts
    obtain⟨⟨u0,u1,u2,u3,_,c1,_,_,hu⟩,_⟩:=hts
    rw[TreeC] at hu
    obtain⟨_,e1,_⟩:=hu
    rw[e,e1] at c1
    exact hn _ _ c1
  exact⟨b,o,hA,Nat.lt_of_lt_of_le hlt ho.size,TreesO.oth hn ho ts b o hlt hb hts⟩
theorem TreesO.oth{w w':World}{P:Nat}(hn:∀j s,w.cell? ⟨P,j,none⟩≠some (S s))(ho:Oth P w w'):∀(ts:List Lfc.Raw)(b o:Nat),b<w.heap.size→b≠P→TreesO w b ts o→TreesO w' b ts o
 |[],_,_,_,_,_=>by rw[TreesO];trivial
 |t :: r,b,o,hlt,hb,h=>by
  rw[TreesO] at h ⊢
  obtain⟨⟨v0,v1,v2,v3,c0,c1,c2,c3,ht⟩,hr⟩:=h
  exact⟨⟨v0,v1,v2,v3,(ho.cell (p:=⟨b,_,none⟩) hlt hb).trans c0,(ho.cell (p:=⟨b,_,none⟩) hlt hb).trans c1,(ho.cell (p:=⟨b,_,none⟩) hlt hb).trans c2,(ho.cell (p:=⟨b,_,none⟩) hlt hb).trans c3,TreeC.oth hn ho t v0 v1 v2 v3 ht⟩,TreesO.oth hn ho r b (o+4) hlt hb hr⟩
end
theorem TreeV.oth{w w':World}{P:Nat}{t:Lfc.Raw}{v:Value}(h:TreeV w t v)(hn:∀j s,w.cell? ⟨P,j,none⟩≠some (S s))(ho:Oth P w w'):TreeV w' t v:=by
 obtain⟨v0,v1,v2,v3,rfl,h⟩:=h
 exact⟨v0,v1,v2,v3,rfl,TreeC.oth hn ho t _ _ _ _ h⟩
theorem opd_sizeP:(Tryz.prog.info? 129).map (·.size)=some 5:=by kernel_rfl
theorem results_opdP{fn:Func}{p:Tmp}(h:fn.results=#[.cell p 129])(tmps:Array Value)(w:World)(g:Nat)(v0 v1 v2 v3 v4:Value)(hp:tmps.getD p undef=.pointer (some ⟨g,0,none⟩))(hg:w.heap[g]?=some (.cells #[v0,v1,v2,v3,v4] 129 (0,0))) :
  (results fn tmps).run Tryz.prog w=.ok (.agg #[v0,v1,v2,v3,v4]) w :=
 results_cell_row h tmps w g _ _ _ _ hp hg Tryz.underlying129 rfl opd_sizeP
theorem results_opdP2{fn:Func}{p u:Tmp}(h:fn.results=#[.cell p 129,.tmp u])(tmps:Array Value)(w:World)(g:Nat)(v0 v1 v2 v3 v4:Value)(hp:tmps.getD p undef=.pointer (some ⟨g,0,none⟩))(hg:w.heap[g]?=some (.cells #[v0,v1,v2,v3,v4] 129 (0,0))) :
  (results fn tmps).run Tryz.prog w=.ok (.tuple #[.agg #[v0,v1,v2,v3,v4],tmps.getD u undef]) w:=by
 rw[results_cell_tmp h,hp]
 simp[asAddr,run_loadVar_row w g _ _ _ _ _ hg Tryz.underlying129 rfl opd_sizeP,Result.andThen]
theorem put5p{W:World}{R:Nat}{a0 a1 a2 a3 a4:Value}{t:TypeId}(h:W.heap[R]?=some (.cells #[a0,a1,a2,a3,a4] t (0,0)))(v0 v1 v2 v3 v4:Value):∃s1 s2 s3 s4 s5,W.setCell ⟨R,0,none⟩ v0=s1∧s1.setCell ⟨R,1,none⟩ v1=s2∧s2.setCell ⟨R,2,none⟩ v2=s3∧s3.setCell ⟨R,3,none⟩ v3=s4∧s4.setCell ⟨R,4,none⟩ v4=s5 ∧
  (W.cell? ⟨R,0,none⟩=some a0∧s1.cell? ⟨R,1,none⟩=some a1∧s2.cell? ⟨R,2,none⟩=some a2∧s3.cell? ⟨R,3,none⟩=some a3∧s4.cell? ⟨R,4,none⟩=some a4) ∧
  (W.frozen? ⟨R,0,none⟩=false∧s1.frozen? ⟨R,1,none⟩=false∧s2.frozen? ⟨R,2,none⟩=false∧s3.frozen? ⟨R,3,none⟩=false∧s4.frozen? ⟨R,4,none⟩=false) ∧
  s5.heap[R]?=some (.cells #[v0,v1,v2,v3,v4] t (0,0))∧Oth R W s5:=by
 have st:∀(X:World)(b0 b1 b2 b3 b4 v:Value),X.heap[R]?=some (.cells #[b0,b1,b2,b3,b4] t (0,0))→(X.setCell ⟨R,0,none⟩ v).heap[R]?=some (.cells #[v,b1,b2,b3,b4] t (0,0))∧(X.setCell ⟨R,1,none⟩ v).heap[R]?=some (.cells #[b0,v,b2,b3,b4] t (0,0))∧(X.setCell ⟨R,2,none⟩ v).heap[R]?=some (.cells #[b0,b1,v,b3,b4] t (0,0))∧(X.setCell ⟨R,3,none⟩ v).heap[R]?=some (.cells #[b0,b1,b2,v,b4] t (0,0))∧(X.setCell ⟨R,4,none⟩ v).heap[R]?=some (.cells #[b0,b1,b2,b3,v] t (0,0)):=by
  intro X b0 b1 b2 b3 b4 v hX
  refine⟨?_,?_,?_,?_,?_⟩ <;> simp[World.setCell,Array.getElem?_modify,hX]
 obtain⟨s1,e1⟩:∃s1,W.setCell ⟨R,0,none⟩ v0=s1:=⟨_,rfl⟩
 obtain⟨s2,e2⟩:∃s2,s1.setCell ⟨R,1,none⟩ v1=s2:=⟨_,rfl⟩
 obtain⟨s3,e3⟩:∃s3,s2.setCell ⟨R,2,none⟩ v2=s3:=⟨_,rfl⟩
 obtain⟨s4,e4⟩:∃s4,s3.setCell ⟨R,3,none⟩ v3=s4:=⟨_,rfl⟩
 obtain⟨s5,e5⟩:∃s5,s4.setCell ⟨R,4,none⟩ v4=s5:=⟨_,rfl⟩
 have q1:=(st W a0 a1 a2 a3 a4 v0 h).1
 rw[e1] at q1
 have q2:=(st s1 _ _ _ _ _ v1 q1).2.1
 rw[e2] at q2
 have q3:=(st s2 _ _ _ _ _ v2 q2).2.2.1
 rw[e3] at q3
 have q4:=(st s3 _ _ _ _ _ v3 q3).2.2.2.1
 rw[e4] at q4
 have q5:=(st s4 _ _ _ _ _ v4 q4).2.2.2.2
 rw[e5] at q5
 refine⟨s1,s2,s3,s4,s5,e1,e2,e3,e4,e5,⟨Lib.cell_of_heap h 0,Lib.cell_of_heap q1 1,Lib.cell_of_heap q2 2,Lib.cell_of_heap q3 3,Lib.cell_of_heap q4 4⟩,⟨Lib.frozen_of_heap h _,Lib.frozen_of_heap q1 _,Lib.frozen_of_heap q2 _,Lib.frozen_of_heap q3 _,Lib.frozen_of_heap q4 _⟩,q5,?_⟩
 rw[←e5,←e4,←e3,←e2,←e1]
 exact((((Oth.set W v0).trans (Oth.set _ v1)).trans (Oth.set _ v2)).trans (Oth.set _ v3)).trans (Oth.set _ v4)
theorem Oth.over{P R:Nat}{w wb w':World}(h:Oth P w wb)(h':Oth R wb w')(hR:w.heap.size≤R):Oth P w w' :=
 ⟨h'.os.trans h.os,h'.tape.trans h.tape,h'.output.trans h.output,Nat.le_trans h.size h'.size,fun k hk hne=>(h'.block k (by have:=h.size;omega) (fun e=>by have:=Option.some.inj e;omega)).trans (h.block k hk hne)⟩
set_option maxRecDepth 100000 in
set_option maxHeartbeats 2000000 in
theorem leaf_any{P R T k pos:Nat}{G:Hd}{p:Lfc.PE}(kind:Int)(n:List UInt8)(w:World)(h:PW w P G p k)(hk:k<p.toks.length)(ok:POk p)(hR:w.cell? ⟨R,0,none⟩=some (.pointer (some ⟨P,0,none⟩)))(hT:w.cell? ⟨T,2,none⟩=some (.int .i64 (pos:Int)))(hRl:R<w.heap.size)(hTl:T<w.heap.size)(hTP:T≠P) :
  Calls Tryz.prog 115 #[.int .i64 kind,S n,.pointer (some ⟨R,0,none⟩),.pointer (some ⟨T,0,none⟩)] w fun e w'=>e=.returned (.tuple #[.agg #[.int .i64 kind,S n,.int .i64 (pos:Int),.slice none 0 0,.bool false],.bool true])∧PW w' P G p (k+1)∧Oth P w w':=by
 have hlen:=ok.len
 have hl:=h.lt
 obtain⟨wa,hwa⟩:∃wa,w.alloc (.cells #[.int .i64 0,S [],.int .i64 0,.slice none 0 0,.bool false] 129)=wa:=⟨_,rfl⟩
 have ba:Below w.heap.size w wa:=by rw[←hwa];exact(Below.refl _ _).alloc (Nat.le_refl _) _
 have qa:wa.heap[w.heap.size]?=some (.cells #[.int .i64 0,S [],.int .i64 0,.slice none 0 0,.bool false] 129 (0,0)):=by rw[←hwa];exact heap_alloc_new _ _
 have hs:=eq2 (show wa.heap.size=w.heap.size+1 by rw[←hwa];simp)
 have ha:=h.below ba
 obtain⟨_,x1,_,_,xf,_,_,_⟩:=ha.cells
 have f1:=xf 1
 have r0:=(ba.cell (p:=⟨R,0,none⟩) hRl).trans hR
 obtain⟨wb,hwb⟩:∃wb,wa.setCell ⟨P,1,none⟩ (.int .i64 ((k:Int)+1))=wb:=⟨_,rfl⟩
 have hb:=ha.step (k+1)
 rw[show((k+1:Nat):Int)=(k:Int)+1 by omega,hwb] at hb
 have ob:Oth P wa wb:=by rw[←hwb];exact Oth.set _ _
 have t2:=((ob.cell (p:=⟨T,2,none⟩) (by simp only;omega) hTP).trans (ba.cell (p:=⟨T,2,none⟩) hTl)).trans hT
 have qb:=ob.heap qa (by omega)
 obtain⟨s1,s2,s3,s4,s5,e1,e2,e3,e4,e5,⟨y0,y1,y2,y3,y4⟩,⟨f0,g1,f2,f3,f4⟩,hq,ho⟩:=put5p (W:=wb) qb (.int .i64 kind) (S n) (.int .i64 (pos:Int)) (.slice none 0 0) (.bool false)
 have o5:Oth P w s5:=((Oth.of_below ba).trans ob).over ho (Nat.le_refl _)
 have h5:PW s5 P G p (k+1):=h.to o5 ((ho.block P (by have:=ob.size;omega) (fun e=>by have:=Option.some.inj e;omega)).trans hb.1)
 have H5:=Lib.hid h5
 have O5:=Lib.hid o5
 have HQ:=Lib.hid hq
 clear h5 o5 hq ho ob ba ha h hb qb qa hs
 go_enter Tryz.func115,Tryz.ntmps115
 go_upto_region 1 with fail
 clear hwa
 go_wp2_with fail
 exact bodyPost_ret (results_opdP2 rfl _ _ _ _ _ _ _ _ rfl HQ.out) rfl ⟨rfl,H5.out,O5.out⟩
end Go.Proofs.YthajalgkjonaaaaGreatDoor
namespace Go.Proofs.YthajalgkjonaaaaGreatDoor
open Go.RowKit
theorem str_infoT:∃i,Tryz.prog.info? 9=some i∧i.zero=some (S [])∧i.size=1∧i.bytes=16:=by
 obtain⟨i0,hi,hz0,hz1,hz2⟩:=info_parts (show(Tryz.prog.info? 9).map (fun i=>(i.zero,i.size,i.bytes))=some (some (S []),1,16) by kernel_rfl)
 exact⟨i0,hi,hz0,hz1,hz2⟩
theorem parts_strs(a:Act)(parts:Array (Nat × Operand))(ls:List (List UInt8))(hparts:parts.toList=(ls.zipIdx 0).map fun x=>(x.2,Operand.const (S x.1))):(parts.map fun(i,x)=>(i,a.eval x)).toList=((ls.map S).zipIdx 0).map fun x=>(x.2,x.1):=by
 rw[Array.toList_map,hparts,List.zipIdx_map,List.map_map,List.map_map]
 rfl
theorem wpList_strs{P:Program}{ops:Array Oper}{rest:List Oper}{o:Oper}{a:Act}{w:World}{Q:Exit→Act→World→Prop}(hg:o.guard=none)(t e:TypeId)(len:Nat)(parts:Array (Nat × Operand))(ho:o.op=.buildSlice t len parts)(ls:List (List UInt8))
  (hu:P.underlying t=some (.slice e)) (hsz:(P.info? e).map (·.size)=some 1) (hz:((P.info? e).bind (·.zero)).isSome=true) (hlen:len=ls.length) (hpos:0<len) (hsmall:len≤2 ^ 24)
  (hparts:parts.toList=(ls.zipIdx 0).map fun x=>(x.2,Operand.const (S x.1)))
  (h:wpList P ops Q rest (a.put o.dst (.slice (some ⟨w.heap.size,0,none⟩) len len)) (w.alloc (.cells (ls.map S).toArray e))):wpList P ops Q (o :: rest) a w:=by
 cases hie:P.info? e with
 |none=>simp[hie] at hsz
 |some ie =>
  simp only[hie,Option.map_some,Option.some.injEq,Option.bind_some] at hsz hz
  obtain⟨z,hzz⟩:=Option.isSome_iff_exists.1 hz
  refine wpList_buildSlice hg t e len parts ho _ ie z hu hie hzz (by rw[hsz];omega) (by rw[hsz];omega) ?_ h
  rw[parts_strs a parts ls hparts,hsz]
  exact Great.fill_flat _ _ (fun v hv=>by obtain⟨n,_,rfl⟩:=List.mem_map.1 hv;rfl) (by simp[hlen])
def StrsB(w:World)(g:Nat)(l:List (List UInt8)):Prop:=g<w.heap.size∧∀k(h:k<l.length),w.cell? ⟨g,k,none⟩=some (S l[k])
theorem StrsB.of{w w':World}{g:Nat}{l:List (List UInt8)}(h:StrsB w g l)(hb:w'.heap[g]?=w.heap[g]?)(hs:w.heap.size≤w'.heap.size):StrsB w' g l:=⟨Nat.lt_of_lt_of_le h.1 hs,fun k hk=>(World.cell?_of_block (a:=⟨g,k,none⟩) hb).trans (h.2 k hk)⟩
theorem cells_b{w:World}{t:TypeId}{vs:List Value}{l:List (List UInt8)}(h:vs=l.map S):StrsB (w.alloc (.cells vs.toArray t)) w.heap.size l:=by
 subst h
 have q:=heap_alloc_new w (.cells (l.map S).toArray t)
 refine⟨lt_of_block q,fun k hk=>?_⟩
 rw[Lib.cell_of_heap q k]
 simp[hk]
set_option maxRecDepth 100000 in
set_option maxHeartbeats 4000000 in
theorem library_any(w:World):Calls Tryz.prog 41 #[] w fun e w'=>e=.returned (.slice (some ⟨w.heap.size,0,none⟩) 5 5)∧Below w.heap.size w w'∧StrsB w' w.heap.size (Lfc.libs.map (·++[10])):=by
 obtain⟨i0,hi,hz0,hz1,hz2⟩:=str_infoT
 go_enter Tryz.func41,Tryz.ntmps41
 go_wp2_with (refine wpList_strs rfl 36 9 5 _ rfl (Lfc.libs.map (·++[10])) Tryz.underlying36 (by kernel_rfl) (by kernel_rfl) (by kernel_rfl) (by decide) (by decide) (by kernel_rfl) ?_)
 go_ret
 exact⟨rfl,(Below.refl _ _).alloc (Nat.le_refl _) _,cells_b rfl⟩
set_option maxRecDepth 100000 in
set_option maxHeartbeats 4000000 in
theorem extra_any(k:Nat)(hk:k<5)(w:World):Calls Tryz.prog 42 #[.int .i64 (k:Int)] w fun e w'=>e=.returned (.slice (some ⟨w.heap.size,0,none⟩) (Lfc.extras k).length (Lfc.extras k).length)∧Below w.heap.size w w'∧StrsB w' w.heap.size (Lfc.extras k):=by
 obtain⟨i0,hi,hz0,hz1,hz2⟩:=str_infoT
 match k,hk with
 |0,_ =>
  go_enter Tryz.func42,Tryz.ntmps42
  go_wp2_with (refine wpList_strs rfl 36 9 12 _ rfl (Lfc.extras 0) Tryz.underlying36 (by kernel_rfl) (by kernel_rfl) (by kernel_rfl) (by decide) (by decide) (by kernel_rfl) ?_)
  go_ret
  exact⟨rfl,(Below.refl _ _).alloc (Nat.le_refl _) _,cells_b rfl⟩
 |1,_ =>
  go_enter Tryz.func42,Tryz.ntmps42
  go_wp2_with (refine wpList_strs rfl 36 9 12 _ rfl (Lfc.extras 1) Tryz.underlying36 (by kernel_rfl) (by kernel_rfl) (by kernel_rfl) (by decide) (by decide) (by kernel_rfl) ?_)
  go_ret
  exact⟨rfl,(Below.refl _ _).alloc (Nat.le_refl _) _,cells_b rfl⟩
 |2,_ =>
  go_enter Tryz.func42,Tryz.ntmps42
  go_wp2_with (refine wpList_strs rfl 36 9 6 _ rfl (Lfc.extras 2) Tryz.underlying36 (by kernel_rfl) (by kernel_rfl) (by kernel_rfl) (by decide) (by decide) (by kernel_rfl) ?_)
  go_ret
  exact⟨rfl,(Below.refl _ _).alloc (Nat.le_refl _) _,cells_b rfl⟩
 |3,_ =>
  go_enter Tryz.func42,Tryz.ntmps42
  go_wp2_with (refine wpList_strs rfl 36 9 4 _ rfl (Lfc.extras 3) Tryz.underlying36 (by kernel_rfl) (by kernel_rfl) (by kernel_rfl) (by decide) (by decide) (by kernel_rfl) ?_)
  go_ret
  exact⟨rfl,(Below.refl _ _).alloc (Nat.le_refl _) _,cells_b rfl⟩
 |4,_ =>
  go_enter Tryz.func42,Tryz.ntmps42
  go_wp2_with (refine wpList_strs rfl 36 9 5 _ rfl (Lfc.extras 4) Tryz.underlying36 (by kernel_rfl) (by kernel_rfl) (by kernel_rfl) (by decide) (by decide) (by kernel_rfl) ?_)
  go_ret
  exact⟨rfl,(Below.refl _ _).alloc (Nat.le_refl _) _,cells_b rfl⟩
end Go.Proofs.YthajalgkjonaaaaGreatDoor
namespace Lfc
inductive MadeT(k:Nat):List UInt8→Bool→Nat→Prop where
 |lib:MadeT k (libs.getD k []++[10]) false 1
 |more {s:List UInt8} {u:Bool} {n i:Nat}:MadeT k s u n→i<(extras k).length→(k=4→i=3→u=false)→MadeT k (s++((extras k).getD i []++[10])) (u || (decide (k=4) && decide (i=3))) (n+1)
theorem MadeT.made{k n:Nat}{s:List UInt8}{u:Bool}(hk:k<5)(h:MadeT k s u n):n≤5→Made s (libOps k u) n:=by
 induction h with
 |lib=>intro _;exact made_lib k hk
 |more h hi hu ih=>intro hn;exact made_extra hk hi (ih (by omega)) (by omega) hu
theorem libs_some:(List.range 5).all (fun k=>decide (0<(sc 0 (libs.getD k []++[10])).1.length))=true:=by decide +kernel
theorem MadeT.some{k n:Nat}{s:List UInt8}{u:Bool}(hk:k<5)(h:MadeT k s u n):n≤5→0<(sc 0 s).1.length:=by
 induction h with
 |lib =>
  intro _
  simpa using List.all_eq_true.1 libs_some k (List.mem_range.2 hk)
 |@more s u n i h hi hu ih =>
  intro hn
  have e2:=List.all_eq_true.1 (List.all_eq_true.1 extras_lex k (List.mem_range.2 hk)) i (List.mem_range.2 hi)
  simp only[decide_eq_true_eq] at e2
  obtain⟨_,d2⟩:=(h.made hk (by omega)).1.app (clean_nl _ e2)
  have:=ih (by omega)
  rw[d2,List.length_append]
  omega
end Lfc
namespace Lfc
theorem extras_len(k:Nat)(hk:k<5):0<(extras k).length∧(extras k).length≤12:=by
 match k,hk with
 |0,_=>decide
 |1,_=>decide
 |2,_=>decide
 |3,_=>decide
 |4,_=>decide
end Lfc
namespace Go.Proofs.YthajalgkjonaaaaGreatDoor
open Go.RowKit
theorem scatT(a b:List UInt8):Value.string (⟨a.toArray⟩++(⟨b.toArray⟩ ++ ⟨#[10]⟩))=S (a++(b++[10])):=congrArg Value.string (by apply ByteArray.ext;simp[ByteArray.data_append])
theorem bool_infoT:∃i,Tryz.prog.info? 4=some i∧i.zero=some (.bool false)∧i.size=1∧i.bytes=1:=by
 obtain⟨i0,hi,hz0,hz1,hz2⟩:=info_parts (show(Tryz.prog.info? 4).map (fun i=>(i.zero,i.size,i.bytes))=some (some (.bool false),1,1) by kernel_rfl)
 exact⟨i0,hi,hz0,hz1,hz2⟩
theorem strs_at{W:World}{g i:Nat}{l:List (List UInt8)}(h:StrsB W g l)(hi:i<l.length):W.cell? ⟨g,i,none⟩=some (S (l.getD i [])):=by
 rw[h.2 i hi,List.getD_eq_getElem?_getD,List.getElem?_eq_getElem hi]
 rfl
theorem lib_at{W:World}{g k:Nat}(h:StrsB W g (Lfc.libs.map (·++[10])))(hk:k<5):W.cell? ⟨g,k,none⟩=some (S (Lfc.libs.getD k []++[10])):=by
 have h5:Lfc.libs.length=5:=by kernel_rfl
 have hl:k<(Lfc.libs.map (·++[10])).length:=by rw[List.length_map];omega
 rw[h.2 k hl,List.getElem_map,List.getD_eq_getElem?_getD,List.getElem?_eq_getElem (by omega)]
 rfl
structure TxI(w:World)(T g u k:Nat)(n:Nat)(us:Nat→Bool)(s:List UInt8)(m:Nat)(W:World):Prop where
 tape:TapeL T W
 oth:Oth T w W
 strs:StrsB W g (Lfc.extras k)
 used:∃arr:Array Value,W.heap[u]?=some (.cells arr 4 (0,0))∧arr.size=n∧∀j,j<n→arr[j]?=some (.bool (us j))
 made:Lfc.MadeT k s (decide (k=4) && us 3) m
theorem TxI.step{w W W':World}{T g u k n m:Nat}{us:Nat→Bool}{s:List UInt8}(h:TxI w T g u k n us s m W)(hg:w.heap.size≤g)(hu:w.heap.size≤u)(hT:T<w.heap.size)(t':TapeL T W')(o:Oth T W W'):TxI w T g u k n us s m W':=by
 obtain⟨arr,h1,h2,h3⟩:=h.used
 have hs:=h.strs.1
 exact⟨t',h.oth.trans o,h.strs.of (o.block g hs (fun e=>by have:=Option.some.inj e;omega)) o.size,⟨arr,(o.block u (lt_of_block h1) (fun e=>by have:=Option.some.inj e;omega)).trans h1,h2,h3⟩,h.made⟩
theorem TxI.put{w W W':World}{T g u k n m i:Nat}{us:Nat→Bool}{s:List UInt8}(h:TxI w T g u k n us s m W)(hg:w.heap.size≤g)(hu:w.heap.size≤u)(hT:T<w.heap.size)(hgu:g≠u)(hi:i<n)(hk:k<5)(hn:n=(Lfc.extras k).length)(hm:m≤4)(hf:us i=false)(e:W.setCell ⟨u,i,none⟩ (.bool true)=W') :
  TxI w T g u k n (fun j=>us j || decide (j=i)) (s++((Lfc.extras k).getD i []++[10])) (m+1) W':=by
 obtain⟨arr,h1,h2,h3⟩:=h.used
 have o:Oth u W W':=by rw[←e];exact Oth.set _ _
 have hs:=h.strs.1
 have hul:=lt_of_block h1
 refine⟨?_,h.oth.over o hu,h.strs.of (o.block g hs (fun e=>by have:=Option.some.inj e;omega)) o.size,⟨arr.setIfInBounds i (.bool true),?_,by simp[h2],fun j hj=>?_⟩,?_⟩
 ·exact h.tape.oth (by omega) o
 ·rw[←e];simp[World.setCell,Array.getElem?_modify,h1]
 ·rw[Array.getElem?_setIfInBounds]
  by_cases hij:i=j
  ·subst hij
   rw[if_pos rfl,if_pos (by omega)]
   simp
  ·rw[if_neg hij,h3 j hj]
   simp[Ne.symm hij]
 ·have:=Lfc.MadeT.more (i:=i) h.made (by omega) (fun h4 h3'=>by subst h3';simp[hf])
  have e2:(decide (k=4) && us 3 || decide (k=4) && decide (i=3))=(decide (k=4) && (us 3 || decide (3=i))):=by
   rw[show decide (3=i)=decide (i=3) from by by_cases h:i=3 <;> simp[h,eq_comm]]
   cases decide (k=4) <;> simp
  rw[e2] at this
  exact this
set_option maxRecDepth 100000 in
set_option maxHeartbeats 4000000 in
theorem madeText_any(T:Nat)(w:World)(ht:TapeL T w):Calls Tryz.prog 21 #[.pointer (some ⟨T,0,none⟩)] w fun e w'=>(∃s k u n,e=.returned (S s)∧k<5∧Lfc.MadeT k s u n∧n≤4)∧TapeL T w'∧Oth T w w':=by
 obtain⟨i0,hi,hz0,hz1,hz2⟩:=bool_infoT
 have hT:=ht.lt
 have CN:=Lib.hid (fun n W (h0:0<n) (h1:n≤100) (h:TapeL T W)=>tapeL_next T n W h0 h1 h)
 have HT:=Lib.hid ht
 clear ht
 go_enter Tryz.func21,Tryz.ntmps21
 go_upto_region 2 with(go_at_call 32;refine(CN.out 5 w (by omega) (by omega) HT.out).mono ?_;rintro e w1⟨⟨k,hk,rfl⟩,t1,o1⟩)
 have hk0:(0:Int)≤(k:Int):=Int.natCast_nonneg _
 have hk1:(k:Int)<5:=by omega
 go_upto_region 3 with(go_at_call 41;refine(library_any _).mono ?_;rintro e w2⟨rfl,b2,s2⟩;have d2:=lib_at s2 hk;have HM:=Lib.hid (Lfc.MadeT.lib (k:=k));generalize Lfc.libs.getD k []++[10]=s0 at d2 HM)
 have T2:=Lib.hid (t1.below b2)
 have O2:=Lib.hid (o1.trans (Oth.of_below b2))
 clear d2 s2 t1 o1 b2
 go_upto_region 4 with(go_at_call 42;refine(extra_any k hk _).mono ?_;rintro e w3⟨rfl,b3,s3⟩)
 have T3:=Lib.hid (T2.out.below b3)
 have O3:=Lib.hid (O2.out.trans (Oth.of_below b3))
 have S3:=Lib.hid s3
 have hg3:w.heap.size≤w2.heap.size:=O2.out.size
 have hg4:=s3.1
 obtain⟨hn0,hn1⟩:=Lfc.extras_len k hk
 obtain⟨n,hn⟩:∃n,(Lfc.extras k).length=n:=⟨_,rfl⟩
 have HN:=Lib.hid hn
 rw[hn] at hn0 hn1
 rw[hn]
 have hmk:=fun W=>run_make_rowN (P:=Tryz.prog) 103 4 i0 (.bool false) Tryz.underlying103 hi hz0 .i64 .i64 n n (Nat.le_refl _) (by rw[hz2];omega) (by omega) W
 rw[hz1,Nat.mul_one] at hmk
 have hcs:(madeCells (Value.bool false).cells n).size=n∧∀j,j<n→(madeCells (Value.bool false).cells n)[j]?=some (.bool false):=by
  refine⟨by simp[madeCells],fun j hj=>?_⟩
  simp[madeCells,Value.cells,hj,Nat.mod_one]
 generalize hM:madeCells (Value.bool false).cells n=M at *
 have HCS:=Lib.hid hcs
 obtain⟨w4,hw4⟩:∃w4,w3.alloc (.cells M 4)=w4:=⟨_,rfl⟩
 have b4:Below w3.heap.size w3 w4:=by rw[←hw4];exact(Below.refl _ _).alloc (Nat.le_refl _) _
 have q4:w4.heap[w3.heap.size]?=some (.cells M 4 (0,0)):=by rw[←hw4];exact heap_alloc_new _ _
 have I4:Hid (TxI w T w2.heap.size w3.heap.size k n (fun _=>false) s0 1 w4):=Lib.hid ⟨T3.out.below b4,O3.out.trans (Oth.of_below b4),S3.out.of (b4.block _ hg4) b4.size,⟨M,q4,HCS.out.1,HCS.out.2⟩,by rw[Bool.and_false];exact HM.out⟩
 clear hn hM hcs b3 s3 b4 q4
 go_upto_region 5 with fail
 clear hmk hw4
 go_wp2_with (go_at_call 32;refine(CN.out 4 w4 (by omega) (by omega) I4.out.tape).mono ?_;rintro e w5⟨⟨r,hr,rfl⟩,t5,o5⟩)
 have I5:=Lib.hid (I4.out.step hg3 (by omega) hT t5 o5)
 have hu3:w.heap.size≤w3.heap.size:=by omega
 have hgu:w2.heap.size≠w3.heap.size:=by omega
 generalize w2.heap.size=g at *
 generalize w3.heap.size=u at *
 clear t5 o5 I4 S3 T3 O3 T2 O2 HM HCS hg4
 go_loopw [4,7,8] (fun sv nv iv wr=>∃(j m:Nat)(s:List UInt8)(us:Nat→Bool),sv=S s∧nv=.int .i64 (j:Int)∧m+j≤4∧Hid (TxI w T g u k n us s m wr)) (fun _ nv _ _=>(intOf nv).toNat)
 case atStart=>exact⟨r,1,s0,_,rfl,rfl,by omega,I5⟩
 case round =>
  clear I5
  obtain⟨j,m,s,us,rfl,rfl,hmj,HI⟩:=hrel
  by_cases hj:0<j
  ·have hj2:decide ((j:Int)>0)=true:=by simp;omega
   go_upto_region 9 with(go_at_call 32;refine(CN.out n wr hn0 (by omega) HI.out.tape).mono ?_;rintro e w6⟨⟨i,hi6,rfl⟩,t6,o6⟩)
   have I6:=Lib.hid (HI.out.step hg3 hu3 hT t6 o6)
   obtain⟨arr,a1,a2,a3⟩:=I6.out.used
   have hc:=Lib.cell_of_heap a1 i
   rw[a3 i hi6] at hc
   have hfz:=Lib.frozen_of_heap a1 i
   have he:=strs_at I6.out.strs (i:=i) (by have:=HN.out;omega)
   have hie0:(0:Int)≤(i:Int):=Int.natCast_nonneg _
   have hie1:(i:Int)<(n:Int):=by omega
   cases hf:us i
   ·rw[hf] at hc
    obtain⟨w7,hw7⟩:∃w7,w6.setCell ⟨u,i,none⟩ (.bool true)=w7:=⟨_,rfl⟩
    have I7:=Lib.hid (I6.out.put hg3 hu3 hT hgu hi6 hk HN.out.symm (by omega) hf hw7)
    have he7:=strs_at I7.out.strs (i:=i) (by have:=HN.out;omega)
    clear a1 a2 a3 he t6 o6 HI
    generalize (Lfc.extras k).getD i []=en at *
    have hsl:s.length+(en.length+1)≤2000:=by have:=(I7.out.made.made hk (by omega)).2.1;rw[List.length_append,List.length_append] at this;simp only[List.length_cons,List.length_nil] at this;omega
    go_wp2_with fail
    go_roundw
    case rel=>exact⟨j-1,m+1,_,_,scatT _ _,by go_num,by omega,I7⟩
    case measure=>simp[intOf];omega
   ·rw[hf] at hc
    clear a1 a2 a3 he t6 o6 HI
    go_wp2_with fail
    go_roundw
    case rel=>exact⟨j-1,m,s,us,rfl,by go_num,by omega,I6⟩
    case measure=>simp[intOf];omega
  ·have hj2:decide ((j:Int)>0)=false:=by simp;omega
   go_wp2_with fail
   go_ret
   exact⟨⟨s,k,_,m,rfl,hk,HI.out.made,by omega⟩,HI.out.tape,HI.out.oth⟩
end Go.Proofs.YthajalgkjonaaaaGreatDoor
namespace Go.Proofs.YthajalgkjonaaaaGreatDoor
open Go.RowKit Go.Maps Go.WideMaps
set_option maxRecDepth 100000 in
set_option maxHeartbeats 2000000 in
theorem operator_any(w0:World)(Rb Mb:Nat)(l:List Lfc.Op)(x:Lfc.Opd)(v:Value)(w:World)(hv:OpdV w x v)(h:EnvR w0 Rb Mb l w) :
  Calls Tryz.prog 192 #[.pointer (some ⟨Rb,0,none⟩),v] w fun e w'=>e=.returned (.tuple #[opV ((Lfc.opOf l x).getD opZ),.bool (Lfc.opOf l x).isSome])∧Below w.heap.size w w':=by
 obtain⟨⟨k,n,p,ts⟩,cl⟩:=x
 obtain⟨k',n',p',ts',A,c,e,rfl,hT⟩:=hv
 cases e
 have hnn:=hT.name_le
 obtain⟨wa,hwa⟩:∃wa,(w.alloc (.cells #[.int .i64 k,S n,.int .i64 p,.slice A ts.length c,.bool cl] 129)).alloc (.cells #[S [],.int .i64 0,.int .i64 0] 34)=wa:=⟨_,rfl⟩
 have ba:Below w.heap.size w wa:=by rw[←hwa];exact((Below.refl _ _).alloc (Nat.le_refl _) _).alloc (by simp) _
 have qo:wa.heap[w.heap.size]?=some (.cells #[.int .i64 k,S n,.int .i64 p,.slice A ts.length c,.bool cl] 129 (0,0)):=by rw[←hwa];exact heap_alloc_old _ _ _ _ (heap_alloc_new _ _)
 have qr:wa.heap[w.heap.size+1]?=some (.cells #[S [],.int .i64 0,.int .i64 0] 34 (0,0)):=by
  rw[←hwa]
  have:=heap_alloc_new (w.alloc (.cells #[.int .i64 k,S n,.int .i64 p,.slice A ts.length c,.bool cl] 129)) (.cells #[S [],.int .i64 0,.int .i64 0] 34)
  simpa using this
 have hsa:=eq2 (show wa.heap.size=w.heap.size+2 by rw[←hwa];simp)
 have x0:wa.cell? ⟨w.heap.size,0,none⟩=some (.int .i64 k):=Lib.cell_of_heap qo 0
 have x1:wa.cell? ⟨w.heap.size,1,none⟩=some (S n):=Lib.cell_of_heap qo 1
 have x4:wa.cell? ⟨w.heap.size,4,none⟩=some (.bool cl):=Lib.cell_of_heap qo 4
 have HE:=Lib.hid (h.new ba)
 have BA:=Lib.hid ba
 have QR:=Lib.hid qr
 have QO:=Lib.hid qo
 clear qo hT h ba
 by_cases hc:cl=true∨k≠1
 ·have he:Lfc.opOf l ⟨.node k n p ts,cl⟩=none:=by
   unfold Lfc.opOf
   rw[if_pos]
   rcases hc with h1 | h1
   ·simp[h1]
   ·simp[Lfc.Raw.kind,h1]
  rw[he]
  obtain⟨s1,s2,s3,g1,g2,g3,⟨y0,y1,y2⟩,⟨f0,f1,f2⟩,hq,ho⟩:=put3 qr (S []) (.int .i64 0) (.int .i64 0)
  have HQ:=Lib.hid hq
  have HO:=Lib.hid ho
  clear hq ho qr he
  cases cl
  ·have hk:¬k=1:=by simpa using hc
   have hk2:(k != 1)=true:=by simpa using hk
   clear hc hk
   go_enter Tryz.func192,Tryz.ntmps192
   go_upto_region 1 with fail
   clear hwa
   go_wp2_with fail
   refine bodyPost_ret (results_op2 rfl _ _ _ _ _ _ rfl HQ.out) rfl ?_
   exact⟨rfl,Oth.below BA.out HO.out (by omega) (by omega)⟩
  ·clear hc
   go_enter Tryz.func192,Tryz.ntmps192
   go_upto_region 1 with fail
   clear hwa
   go_wp2_with fail
   refine bodyPost_ret (results_op2 rfl _ _ _ _ _ _ rfl HQ.out) rfl ?_
   exact⟨rfl,Oth.below BA.out HO.out (by omega) (by omega)⟩
 ·obtain rfl:cl=false:=by cases cl;rfl;exact absurd (.inl rfl) hc
  obtain rfl:k=1:=by
   by_cases e:k=1
   ·exact e
   ·exact absurd (.inr e) hc
  clear hc
  have he:Lfc.opOf l ⟨.node 1 n p ts,false⟩=Lfc.look l n:=by
   unfold Lfc.opOf
   rw[if_neg (by simp[Lfc.Raw.kind])];rfl
  rw[he]
  clear he
  obtain⟨N,hm⟩:=HE.out.map
  have hm2:=hm.kept (World.grownBy_alloc wa (.cells #[S [],.int .i64 0,.int .i64 0] 34) none) (by simp)
  have hlk1:(Instr.lookup 172 (.map (some Mb)) (S n) true).run Tryz.prog wa.drew=.ok (.tuple #[opV ((Lfc.look l n).getD opZ),.bool (Lfc.look l n).isSome]) wa.drew:=OpMap.look (w:=wa.drew) hm n hnn
  have hlk2:(Instr.lookup 172 (.map (some Mb)) (S n) true).run Tryz.prog (wa.alloc (.cells #[S [],.int .i64 0,.int .i64 0] 34)).drew=.ok (.tuple #[opV ((Lfc.look l n).getD opZ),.bool (Lfc.look l n).isSome]) (wa.alloc (.cells #[S [],.int .i64 0,.int .i64 0] 34)).drew:=OpMap.look (w:=(wa.alloc (.cells #[S [],.int .i64 0,.int .i64 0] 34)).drew) hm2 n hnn
  have m0:=HE.out.m0
  have hrb:=HE.out.lt
  have r1:(wa.alloc (.cells #[S [],.int .i64 0,.int .i64 0] 34)).cell? ⟨Rb,0,none⟩=some (.map (some Mb)):=(World.cell?_of_block (Lib.alloc_old wa _ _ hrb)).trans m0
  have r2:(wa.alloc (.cells #[S [],.int .i64 0,.int .i64 0] 34)).cell? ⟨w.heap.size,1,none⟩=some (S n):=(World.cell?_of_block (Lib.alloc_old wa _ _ (by simp only;omega))).trans x1
  clear hm hm2
  unfold opV at hlk1 hlk2 ⊢
  generalize hO:(Lfc.look l n).getD opZ=o at *
  generalize (Lfc.look l n).isSome=f at *
  obtain⟨on,of,op⟩:=o
  simp only at hlk1 hlk2 ⊢
  clear hO
  go_enter Tryz.func192,Tryz.ntmps192
  go_upto_region 1 with fail
  clear hwa
  go_wp2_with fail
  go_region_held3 (fun W=>W.cell? ⟨Rb,0,none⟩=some (.map (some Mb))∧W.cell? ⟨w.heap.size,1,none⟩=some (S n))
   (first | exact⟨m0,x1⟩ | exact⟨r1,r2⟩ | go_keep)
   (fail)
  all_goals
   obtain⟨wz,hwz⟩:∃wz,(wa.alloc (.cells #[S on,.int .i64 of,.int .i64 op] 34)).drew=wz:=⟨_,rfl⟩
   have bz:Below wa.heap.size wa wz:=by rw[←hwz];exact((Below.refl _ _).alloc (Nat.le_refl _) _).drew
   have qz:wz.heap[wa.heap.size]?=some (.cells #[S on,.int .i64 of,.int .i64 op] 34 (0,0)):=by rw[←hwz];exact heap_alloc_new _ _
   obtain⟨u0,u1,u2⟩:=cells3 qz
   obtain⟨s1,s2,s3,g1,g2,g3,⟨y0,y1,y2⟩,⟨f0,f1,f2⟩,hq,ho⟩:=put3 ((bz.block _ (lt_of_block QR.out)).trans QR.out) (S on) (.int .i64 of) (.int .i64 op)
   have HQ:=Lib.hid hq
   have HO:=Lib.hid ho
   have BZ:=Lib.hid bz
   have hsz:=bz.size
   clear hq ho bz qz qr hlk1 hlk2
   go_upto_region 4 with fail
   rw[hwz]
   clear hwz
   go_wp2_with fail
   refine bodyPost_ret (results_op2 rfl _ _ _ _ _ _ rfl HQ.out) rfl ?_
   exact⟨rfl,Oth.below (BA.out.trans (BZ.out.mono (by omega))) HO.out (by omega) (by omega)⟩
end Go.Proofs.YthajalgkjonaaaaGreatDoor
namespace Lfc
theorem rising_len:∀(l:List Nat)(a n:Nat),l.Pairwise (· < ·)→(∀i∈l,a≤i∧i<n)→l.length≤n-a
 |[],_,_,_,_=>by simp
 |x :: r,a,n,hp,hb=>by
  rw[List.pairwise_cons] at hp
  have hx:=hb x List.mem_cons_self
  have:=rising_len r (x+1) n hp.2 (fun i hi=>⟨hp.1 i hi,(hb i (List.mem_cons_of_mem _ hi)).2⟩)
  simp only[List.length_cons]
  omega
theorem places_len{n:Nat}{l:List Nat}(h:Places n l):l.length≤n:=by
 have:=rising_len l 0 n h.1 (fun i hi=>⟨Nat.zero_le _,h.2 i hi⟩)
 simpa using this
theorem lowStep_new(L:LowS)(j:Nat)(o:Op)(h:L.at_.length=0∨o.prec<L.first.prec):lowStep L j (some o)=⟨[j],o,true⟩:=if_pos h
theorem lowStep_more(L:LowS)(j:Nat)(o:Op)(h:¬(L.at_.length=0∨o.prec<L.first.prec))(h2:o.prec=L.first.prec):lowStep L j (some o)=⟨L.at_++[j],L.first,L.same && decide (o.fix=L.first.fix)⟩:=(if_neg h).trans (if_pos h2)
theorem lowStep_not(L:LowS)(j:Nat)(o:Op)(h:¬(L.at_.length=0∨o.prec<L.first.prec))(h2:¬o.prec=L.first.prec):lowStep L j (some o)=L:=(if_neg h).trans (if_neg h2)
end Lfc
namespace Go.Proofs.YthajalgkjonaaaaGreatDoor
open Go.RowKit Go.Maps Go.WideMaps
def natCells(l:List Nat):List Value:=l.map fun(i:Nat)=>Value.int .i64 (i:Int)
theorem info_int:∃i,Tryz.prog.info? 3=some i∧i.zero=some (.int .i64 0)∧i.size=1∧i.bytes=8:=by
 obtain⟨i0,hi,hz0,hz1,hz2⟩:=info_parts (show(Tryz.prog.info? 3).map (fun i=>(i.zero,i.size,i.bytes))=some (some (.int .i64 0),1,8) by kernel_rfl)
 exact⟨i0,hi,hz0,hz1,hz2⟩
theorem own_mono{w:World}{b b':Nat}{e:TypeId}{size n:Nat}{v:Value}{xs:List Value}(h:w.ownsRow b e size v n xs)(hb:b'≤b):w.ownsRow b' e size v n xs:=by
 refine⟨h.1,?_⟩
 rcases h.2 with hn | ⟨g,cap,cur,hv,hbg,rest⟩
 ·exact .inl hn
 ·exact .inr ⟨g,cap,cur,hv,Nat.le_trans hb hbg,rest⟩
structure LowI(w:World)(L:Lfc.LowS)(v:Value)(wr:World):Prop where
 own:wr.ownsRow (w.heap.size+1) 3 1 v L.at_.length (natCells L.at_)
 first:wr.heap[w.heap.size]?=some (.cells #[S L.first.name,.int .i64 L.first.fix,.int .i64 L.first.prec] 34 (0,0))
 bel:Below w.heap.size w wr
theorem LowI.new{w wr w':World}{L:Lfc.LowS}{v:Value}(h:LowI w L v wr)(hb:Below wr.heap.size wr w'):LowI w L v w' :=
 ⟨own_below h.own hb,(hb.block _ (lt_of_block h.first)).trans h.first,h.bel.trans (hb.mono h.bel.size)⟩
set_option maxRecDepth 100000 in
set_option maxHeartbeats 4000000 in
theorem lowest_any(w0:World)(Rb Mb:Nat)(l:List Lfc.Op)(s:List Lfc.Opd)(A:Option Addr)(c:Nat)(w:World)(hl:s.length≤1000000000)(hs:OpdsAt w0 A s)(h:EnvR w0 Rb Mb l w) :
  Calls Tryz.prog 168 #[.pointer (some ⟨Rb,0,none⟩),.slice A s.length c] w fun e w'=>∃A' c',e=.returned (.tuple #[.slice A' (Lfc.low l s).at_.length c',opV (Lfc.low l s).first,.bool (Lfc.low l s).same])∧Hid (w'.ownsRow w.heap.size 3 1 (.slice A' (Lfc.low l s).at_.length c') (Lfc.low l s).at_.length (natCells (Lfc.low l s).at_))∧Below w.heap.size w w':=by
 obtain⟨i0,hi,hz0,hz1,hz2⟩:=info_int
 have HS:=Lib.hid hs
 have HE:=Lib.hid h
 have HPL:=Lib.hid (fun j (hj:j≤s.length)=>Lfc.low_places l s j hj)
 have HSUC:=Lib.hid (fun j (hj:j<s.length)=>Lfc.low_succ l s j hj)
 obtain⟨wa,hwa⟩:∃wa,w.alloc (.cells #[S [],.int .i64 0,.int .i64 0] 34)=wa:=⟨_,rfl⟩
 have L0:Hid (LowI w Lfc.lowZ (.slice none 0 0) wa):=by
  rw[←hwa]
  exact Lib.hid ⟨(own_nil _ _ _ _:World.ownsRow _ _ _ _ (.slice none 0 0) 0 []),heap_alloc_new _ _,(Below.refl _ _).alloc (Nat.le_refl _) _⟩
 clear hs h
 go_enter Tryz.func168,Tryz.ntmps168
 go_upto_region 1 with fail
 clear hwa
 go_wp2_with fail
 go_loopw [4,6,13] (fun v b i wr=>∃j:Nat,j≤s.length∧i=.int .i64 j∧∃(L:Lfc.LowS)(A':Option Addr)(c':Nat),Hid (L=Lfc.low l (s.take j))∧v=.slice A' L.at_.length c'∧b=.bool L.same∧Hid (LowI w L v wr)) (fun _ _ i _=>s.length-(intOf i).toNat)
 case atStart=>exact⟨0,by omega,rfl,Lfc.lowZ,none,0,Lib.hid (by simp[Lfc.low,Lfc.lowN]),rfl,rfl,L0⟩
 case round =>
  obtain⟨j,hj,rfl,L,A',c',HL,rfl,rfl,HI⟩:=hrel
  by_cases hlt:j<s.length
  ·obtain⟨b,o,k,n,p,ts,B,c1,rfl,hb,ht,d0,d1,d2,d3,d4,hT⟩:=(HS.out.below (HE.out.bel.trans (HI.out.bel.mono HE.out.bel.size))).at_ hlt
   obtain⟨w3,hw3⟩:∃w3,wr.alloc (.cells #[.int .i64 k,S n,.int .i64 p,.slice B ts.length c1,.bool s[j].closed] 129)=w3:=⟨_,rfl⟩
   have b3:Below wr.heap.size wr w3:=by rw[←hw3];exact(Below.refl _ _).alloc (Nat.le_refl _) _
   have q3:w3.heap[wr.heap.size]?=some (.cells #[.int .i64 k,S n,.int .i64 p,.slice B ts.length c1,.bool s[j].closed] 129 (0,0)):=by rw[←hw3];exact heap_alloc_new _ _
   have HOP:=Lib.hid (operator_any w0 Rb Mb l s[j] _ w3 ⟨k,n,p,ts,B,c1,ht,rfl,hT.below b3⟩ (HE.out.new (HI.out.bel.trans (b3.mono HI.out.bel.size))))
   have HST:=HSUC.out j hlt
   rw[←HL.out] at HST
   have HSTEP:=Lib.hid HST
   have x0:w3.cell? ⟨wr.heap.size,0,none⟩=some (.int .i64 k):=Lib.cell_of_heap q3 0
   have x1:w3.cell? ⟨wr.heap.size,1,none⟩=some (S n):=Lib.cell_of_heap q3 1
   have x2:w3.cell? ⟨wr.heap.size,2,none⟩=some (.int .i64 p):=Lib.cell_of_heap q3 2
   have x3:w3.cell? ⟨wr.heap.size,3,none⟩=some (.slice B ts.length c1):=Lib.cell_of_heap q3 3
   have x4:w3.cell? ⟨wr.heap.size,4,none⟩=some (.bool s[j].closed):=Lib.cell_of_heap q3 4
   have HW3:=Lib.hid hw3
   have I3:=Lib.hid (HI.out.new b3)
   have hpl:=(HPL.out j hj)
   rw[←HL.out] at hpl
   have hatl:L.at_.length≤j:=Lfc.places_len hpl
   have hi0:(0:Int)≤(j:Int):=Int.natCast_nonneg _
   have hi1:(j:Int)<(s.length:Int):=by omega
   generalize hcl:s[j].closed=cl at *
   generalize hop:Lfc.opOf l s[j]=oo at *
   clear hT b3 q3 hw3 HST ht hcl hop hpl
   go_upto_region 4 with fail
   rw[HW3.out]
   go_wp2_with fail
   refine HOP.out.mono ?_
   rintro e w4⟨rfl,b4⟩
   have I4:=Lib.hid (I3.out.new b4)
   clear x0 x1 x2 x3 x4 d0 d1 d2 d3 d4 I3 b4
   cases oo with
   |none =>
    simp only[Option.getD_none,Option.isSome_none] at *
    obtain⟨w5,hw5⟩:∃w5,w4.alloc (.cells #[S [],.int .i64 0,.int .i64 0] 34)=w5:=⟨_,rfl⟩
    have I5:Hid (LowI w L (.slice A' L.at_.length c') w5):=by rw[←hw5];exact Lib.hid (I4.out.new ((Below.refl _ _).alloc (Nat.le_refl _) _))
    have HW5:=Lib.hid hw5
    have hsame:Hid (L=Lfc.low l (s.take (j+1))):=Lib.hid (by rw[HSTEP.out];rfl)
    unfold opV opZ
    clear hw5
    go_upto_region 5 with fail
    rw[HW5.out]
    go_wp2_with fail
    go_roundw
    case rel=>exact⟨j+1,by omega,by go_num,L,A',c',hsame,rfl,rfl,I5⟩
    case measure=>simp[intOf];omega
   | some oo =>
    simp only[Option.getD_some,Option.isSome_some] at *
    obtain⟨on,of,op⟩:=oo
    obtain⟨w5,hw5⟩:∃w5,w4.alloc (.cells #[S on,.int .i64 of,.int .i64 op] 34)=w5:=⟨_,rfl⟩
    have I5:Hid (LowI w L (.slice A' L.at_.length c') w5):=by rw[←hw5];exact Lib.hid (I4.out.new ((Below.refl _ _).alloc (Nat.le_refl _) _))
    have q5:w5.heap[w4.heap.size]?=some (.cells #[S on,.int .i64 of,.int .i64 op] 34 (0,0)):=by rw[←hw5];exact heap_alloc_new _ _
    have hw45:=lt_of_block q5
    have hw4s:w.heap.size<w4.heap.size:=lt_of_block I4.out.first
    obtain⟨u0,u1,u2⟩:=cells3 q5
    obtain⟨t0,t1,t2⟩:=cells3 I5.out.first
    have HW5:=Lib.hid hw5
    unfold opV
    simp only
    clear hw5 q5
    go_upto_region 5 with fail
    rw[HW5.out]
    by_cases hcase:L.at_.length=0∨op<L.first.prec
    ·by_cases ha:L.at_.length=0
     ·have ha2:((L.at_.length:Int) == 0)=true:=by simp[ha]
      have HA:=Lib.hid ha
      clear ha
      have hL2:Hid ((⟨[j],⟨on,of,op⟩,true⟩:Lfc.LowS)=Lfc.low l (s.take (j+1))):=Lib.hid (by rw[HSTEP.out,Lfc.lowStep_new _ _ _ hcase])
      obtain⟨s1,s2,s3,g1,g2,g3,⟨y0,y1,y2⟩,⟨f0,f1,f2⟩,hq,ho⟩:=put3 (W:=(w5.alloc (.cells #[.int .i64 (j:Int)] 3)).drew) (heap_alloc_old _ _ _ _ I5.out.first) (S on) (.int .i64 of) (.int .i64 op)
      have HN:Hid (LowI w ⟨[j],⟨on,of,op⟩,true⟩ (.slice (some ⟨w5.heap.size,0,none⟩) 1 1) s3):=by
       have bz:Below w5.heap.size w5 (w5.alloc (.cells #[.int .i64 (j:Int)] 3)).drew:=((Below.refl _ _).alloc (Nat.le_refl _) _).drew
       have hsz:=I5.out.bel.size
       have hf:=lt_of_block I5.out.first
       have qn:s3.heap[w5.heap.size]?=some (.cells #[.int .i64 (j:Int)] 3 (0,0)):=ho.heap (heap_alloc_new w5 _) (by omega)
       refine Lib.hid ⟨⟨rfl,.inr ⟨w5.heap.size,1,_,rfl,by omega,qn,Nat.le_refl _,by unfold maxLen;omega,rfl,rfl⟩⟩,hq,Oth.below (I5.out.bel.trans (bz.mono hsz)) ho (Nat.le_refl _) (by have:=bz.size;omega)⟩
      have r0:s3.cell? ⟨w4.heap.size,0,none⟩=some (S on):=(ho.cell (p:=⟨w4.heap.size,0,none⟩) (by simp;omega) (by simp only;omega)).trans ((World.cell?_of_block (Lib.alloc_old w5 _ _ hw45)).trans u0)
      have r1:s3.cell? ⟨w4.heap.size,1,none⟩=some (.int .i64 of):=(ho.cell (p:=⟨w4.heap.size,1,none⟩) (by simp;omega) (by simp only;omega)).trans ((World.cell?_of_block (Lib.alloc_old w5 _ _ hw45)).trans u1)
      have r2:s3.cell? ⟨w4.heap.size,2,none⟩=some (.int .i64 op):=(ho.cell (p:=⟨w4.heap.size,2,none⟩) (by simp;omega) (by simp only;omega)).trans ((World.cell?_of_block (Lib.alloc_old w5 _ _ hw45)).trans u2)
      clear hq ho
      go_wp2_with fail
      go_region_held3 (fun W=>W.cell? ⟨w4.heap.size,0,none⟩=some (S on)∧W.cell? ⟨w4.heap.size,1,none⟩=some (.int .i64 of)∧W.cell? ⟨w4.heap.size,2,none⟩=some (.int .i64 op))
       (first | exact⟨u0,u1,u2⟩ | exact⟨r0,r1,r2⟩ | go_keep)
       (fail)
      all_goals
       go_wp2_with fail
       go_roundw
       case rel=>exact⟨j+1,by omega,by go_num,⟨[j],⟨on,of,op⟩,true⟩,some ⟨w5.heap.size,0,none⟩,1,hL2,rfl,rfl,HN⟩
       case measure=>simp[intOf];omega
     ·have ha2:((L.at_.length:Int) == 0)=false:=by simp;intro e;exact ha (by simp[e])
      have hlt2:op<L.first.prec:=by omega
      have hlt3:decide (op<L.first.prec)=true:=by simpa using hlt2
      have HA:=Lib.hid ha
      clear ha
      have hL2:Hid ((⟨[j],⟨on,of,op⟩,true⟩:Lfc.LowS)=Lfc.low l (s.take (j+1))):=Lib.hid (by rw[HSTEP.out,Lfc.lowStep_new _ _ _ hcase])
      obtain⟨s1,s2,s3,g1,g2,g3,⟨y0,y1,y2⟩,⟨f0,f1,f2⟩,hq,ho⟩:=put3 (W:=(w5.alloc (.cells #[.int .i64 (j:Int)] 3)).drew) (heap_alloc_old _ _ _ _ I5.out.first) (S on) (.int .i64 of) (.int .i64 op)
      have HN:Hid (LowI w ⟨[j],⟨on,of,op⟩,true⟩ (.slice (some ⟨w5.heap.size,0,none⟩) 1 1) s3):=by
       have bz:Below w5.heap.size w5 (w5.alloc (.cells #[.int .i64 (j:Int)] 3)).drew:=((Below.refl _ _).alloc (Nat.le_refl _) _).drew
       have hsz:=I5.out.bel.size
       have hf:=lt_of_block I5.out.first
       have qn:s3.heap[w5.heap.size]?=some (.cells #[.int .i64 (j:Int)] 3 (0,0)):=ho.heap (heap_alloc_new w5 _) (by omega)
       refine Lib.hid ⟨⟨rfl,.inr ⟨w5.heap.size,1,_,rfl,by omega,qn,Nat.le_refl _,by unfold maxLen;omega,rfl,rfl⟩⟩,hq,Oth.below (I5.out.bel.trans (bz.mono hsz)) ho (Nat.le_refl _) (by have:=bz.size;omega)⟩
      have r0:s3.cell? ⟨w4.heap.size,0,none⟩=some (S on):=(ho.cell (p:=⟨w4.heap.size,0,none⟩) (by simp;omega) (by simp only;omega)).trans ((World.cell?_of_block (Lib.alloc_old w5 _ _ hw45)).trans u0)
      have r1:s3.cell? ⟨w4.heap.size,1,none⟩=some (.int .i64 of):=(ho.cell (p:=⟨w4.heap.size,1,none⟩) (by simp;omega) (by simp only;omega)).trans ((World.cell?_of_block (Lib.alloc_old w5 _ _ hw45)).trans u1)
      have r2:s3.cell? ⟨w4.heap.size,2,none⟩=some (.int .i64 op):=(ho.cell (p:=⟨w4.heap.size,2,none⟩) (by simp;omega) (by simp only;omega)).trans ((World.cell?_of_block (Lib.alloc_old w5 _ _ hw45)).trans u2)
      clear hq ho
      go_wp2_with fail
      go_region_held3 (fun W=>W.cell? ⟨w4.heap.size,0,none⟩=some (S on)∧W.cell? ⟨w4.heap.size,1,none⟩=some (.int .i64 of)∧W.cell? ⟨w4.heap.size,2,none⟩=some (.int .i64 op))
       (first | exact⟨u0,u1,u2⟩ | exact⟨r0,r1,r2⟩ | go_keep)
       (fail)
      all_goals
       go_wp2_with fail
       go_roundw
       case rel=>exact⟨j+1,by omega,by go_num,⟨[j],⟨on,of,op⟩,true⟩,some ⟨w5.heap.size,0,none⟩,1,hL2,rfl,rfl,HN⟩
       case measure=>simp[intOf];omega
    ·have ha:¬L.at_.length=0:=fun e=>hcase (.inl e)
     have ha2:((L.at_.length:Int) == 0)=false:=by simp;intro e;exact ha (by simp[e])
     have hlt2:¬op<L.first.prec:=fun e=>hcase (.inr e)
     have hlt3:decide (op<L.first.prec)=false:=by simpa using hlt2
     have HA:=Lib.hid ha
     clear ha
     by_cases hpe:op=L.first.prec
     ·have hpe2:(op == L.first.prec)=true:=by simpa using hpe
      have HPE:=Lib.hid hpe
      cases hsm:L.same
      ·have HSM:=Lib.hid hsm
       have hL2':(false && decide (of=L.first.fix))=false:=by simp
       have hlm:L.at_.length+1≤maxLen:=by unfold maxLen;omega
       have hl8:(L.at_.length+1)*8≤140737488355328:=by omega
       have hL2:Hid ((⟨L.at_++[j],L.first,false⟩:Lfc.LowS)=Lfc.low l (s.take (j+1))):=Lib.hid (by rw[HSTEP.out,Lfc.lowStep_more _ _ _ hcase hpe];simp[HSM.out])
       go_wp2_with (at_builtin;refine wpList_append_own_at _ rfl _ _ 22 rfl (w.heap.size+1) 3 i0 (.int .i64 0) 1 8 Tryz.underlying22 hi hz0 hz1 hz2 rfl (by decide) _ _ _ rfl (I5.out.own.alloc _) ⟨w5.heap.size,0,none⟩ 1 1 [.int .i64 (j:Int)] rfl rfl (cell_one_new _ _ _) (by intro u hu;simp at hu;subst hu;rfl) hlm hl8 (alloc_le (by have:=lt_of_block I5.out.first;omega)) ?_)
       intro v' w6 hown6 hg6 _ _
       obtain⟨A6,c6,rfl⟩:=own_form hown6
       have HN:Hid (LowI w ⟨L.at_++[j],L.first,false⟩ (.slice A6 (L.at_++[j]).length c6) w6):=by
        have hf:=lt_of_block I5.out.first
        have e:natCells (L.at_++[j])=natCells L.at_++[.int .i64 (j:Int)]:=by simp[natCells]
        have bz:Below w5.heap.size w5 (w5.alloc (.cells #[.int .i64 (j:Int)] 3)):=(Below.refl _ _).alloc (Nat.le_refl _) _
        refine Lib.hid ⟨by rw[e,List.length_append];exact hown6,?_,(I5.out.bel.trans (bz.mono I5.out.bel.size)).grown hg6 (by have:=bz.size;omega) (fun k hk=>by have:=own_block_ge I5.out.own k hk;omega)⟩
        rw[hg6.block _ (by simp;omega) (fun e=>by have:=own_block_ge I5.out.own _ e.symm;omega)]
        exact heap_alloc_old _ _ _ _ I5.out.first
       have HLN:=Lib.hid (List.length_append:(L.at_++[j]).length=_)
       have z0:w6.cell? ⟨w.heap.size,1,none⟩=some (.int .i64 L.first.fix):=(cells3 HN.out.first).2.1
       have z1:w6.cell? ⟨w4.heap.size,1,none⟩=some (.int .i64 of):=by
        have hne:some w4.heap.size≠(Value.slice A' L.at_.length c').ownBlock:=fun e=>by
         have:=(I4.out.own.lt _ e.symm).2
         omega
        rw[World.cell?_of_block (a:=⟨w4.heap.size,1,none⟩) (hg6.block _ (by simp;omega) hne),World.cell?_of_block (a:=⟨w4.heap.size,1,none⟩) (Lib.alloc_old w5 _ _ hw45)]
        exact u1
       clear hown6 hg6
       go_wp2_with fail
       go_roundw
       case rel=>exact⟨j+1,by omega,by go_num,⟨L.at_++[j],L.first,false⟩,A6,c6,hL2,by simp,by simp[*],by first | exact HN | (rw[HLN.out] at HN;exact HN)⟩
       case measure=>simp[intOf];omega
      ·have HSM:=Lib.hid hsm
       by_cases hfe:of=L.first.fix
       ·have hfe2:(of == L.first.fix)=true:=by simpa using hfe
        have hlm:L.at_.length+1≤maxLen:=by unfold maxLen;omega
        have hl8:(L.at_.length+1)*8≤140737488355328:=by omega
        have hL2:Hid ((⟨L.at_++[j],L.first,true⟩:Lfc.LowS)=Lfc.low l (s.take (j+1))):=Lib.hid (by rw[HSTEP.out,Lfc.lowStep_more _ _ _ hcase hpe];simp[HSM.out,hfe])
        go_wp2_with (at_builtin;refine wpList_append_own_at _ rfl _ _ 22 rfl (w.heap.size+1) 3 i0 (.int .i64 0) 1 8 Tryz.underlying22 hi hz0 hz1 hz2 rfl (by decide) _ _ _ rfl (I5.out.own.alloc _) ⟨w5.heap.size,0,none⟩ 1 1 [.int .i64 (j:Int)] rfl rfl (cell_one_new _ _ _) (by intro u hu;simp at hu;subst hu;rfl) hlm hl8 (alloc_le (by have:=lt_of_block I5.out.first;omega)) ?_)
        intro v' w6 hown6 hg6 _ _
        obtain⟨A6,c6,rfl⟩:=own_form hown6
        have HN:Hid (LowI w ⟨L.at_++[j],L.first,true⟩ (.slice A6 (L.at_++[j]).length c6) w6):=by
         have hf:=lt_of_block I5.out.first
         have e:natCells (L.at_++[j])=natCells L.at_++[.int .i64 (j:Int)]:=by simp[natCells]
         have bz:Below w5.heap.size w5 (w5.alloc (.cells #[.int .i64 (j:Int)] 3)):=(Below.refl _ _).alloc (Nat.le_refl _) _
         refine Lib.hid ⟨by rw[e,List.length_append];exact hown6,?_,(I5.out.bel.trans (bz.mono I5.out.bel.size)).grown hg6 (by have:=bz.size;omega) (fun k hk=>by have:=own_block_ge I5.out.own k hk;omega)⟩
         rw[hg6.block _ (by simp;omega) (fun e=>by have:=own_block_ge I5.out.own _ e.symm;omega)]
         exact heap_alloc_old _ _ _ _ I5.out.first
        have HLN:=Lib.hid (List.length_append:(L.at_++[j]).length=_)
        have z0:w6.cell? ⟨w.heap.size,1,none⟩=some (.int .i64 L.first.fix):=(cells3 HN.out.first).2.1
        have z1:w6.cell? ⟨w4.heap.size,1,none⟩=some (.int .i64 of):=by
         have hne:some w4.heap.size≠(Value.slice A' L.at_.length c').ownBlock:=fun e=>by
          have:=(I4.out.own.lt _ e.symm).2
          omega
         rw[World.cell?_of_block (a:=⟨w4.heap.size,1,none⟩) (hg6.block _ (by simp;omega) hne),World.cell?_of_block (a:=⟨w4.heap.size,1,none⟩) (Lib.alloc_old w5 _ _ hw45)]
         exact u1
        clear hown6 hg6
        go_wp2_with fail
        go_roundw
        case rel=>exact⟨j+1,by omega,by go_num,⟨L.at_++[j],L.first,true⟩,A6,c6,hL2,by simp,by simp[*],by first | exact HN | (rw[HLN.out] at HN;exact HN)⟩
        case measure=>simp[intOf];omega
       ·have hfe2:(of == L.first.fix)=false:=by simpa using hfe
        have hlm:L.at_.length+1≤maxLen:=by unfold maxLen;omega
        have hl8:(L.at_.length+1)*8≤140737488355328:=by omega
        have hL2:Hid ((⟨L.at_++[j],L.first,false⟩:Lfc.LowS)=Lfc.low l (s.take (j+1))):=Lib.hid (by rw[HSTEP.out,Lfc.lowStep_more _ _ _ hcase hpe];simp[HSM.out,hfe])
        go_wp2_with (at_builtin;refine wpList_append_own_at _ rfl _ _ 22 rfl (w.heap.size+1) 3 i0 (.int .i64 0) 1 8 Tryz.underlying22 hi hz0 hz1 hz2 rfl (by decide) _ _ _ rfl (I5.out.own.alloc _) ⟨w5.heap.size,0,none⟩ 1 1 [.int .i64 (j:Int)] rfl rfl (cell_one_new _ _ _) (by intro u hu;simp at hu;subst hu;rfl) hlm hl8 (alloc_le (by have:=lt_of_block I5.out.first;omega)) ?_)
        intro v' w6 hown6 hg6 _ _
        obtain⟨A6,c6,rfl⟩:=own_form hown6
        have HN:Hid (LowI w ⟨L.at_++[j],L.first,false⟩ (.slice A6 (L.at_++[j]).length c6) w6):=by
         have hf:=lt_of_block I5.out.first
         have e:natCells (L.at_++[j])=natCells L.at_++[.int .i64 (j:Int)]:=by simp[natCells]
         have bz:Below w5.heap.size w5 (w5.alloc (.cells #[.int .i64 (j:Int)] 3)):=(Below.refl _ _).alloc (Nat.le_refl _) _
         refine Lib.hid ⟨by rw[e,List.length_append];exact hown6,?_,(I5.out.bel.trans (bz.mono I5.out.bel.size)).grown hg6 (by have:=bz.size;omega) (fun k hk=>by have:=own_block_ge I5.out.own k hk;omega)⟩
         rw[hg6.block _ (by simp;omega) (fun e=>by have:=own_block_ge I5.out.own _ e.symm;omega)]
         exact heap_alloc_old _ _ _ _ I5.out.first
        have HLN:=Lib.hid (List.length_append:(L.at_++[j]).length=_)
        have z0:w6.cell? ⟨w.heap.size,1,none⟩=some (.int .i64 L.first.fix):=(cells3 HN.out.first).2.1
        have z1:w6.cell? ⟨w4.heap.size,1,none⟩=some (.int .i64 of):=by
         have hne:some w4.heap.size≠(Value.slice A' L.at_.length c').ownBlock:=fun e=>by
          have:=(I4.out.own.lt _ e.symm).2
          omega
         rw[World.cell?_of_block (a:=⟨w4.heap.size,1,none⟩) (hg6.block _ (by simp;omega) hne),World.cell?_of_block (a:=⟨w4.heap.size,1,none⟩) (Lib.alloc_old w5 _ _ hw45)]
         exact u1
        clear hown6 hg6
        go_wp2_with fail
        go_roundw
        case rel=>exact⟨j+1,by omega,by go_num,⟨L.at_++[j],L.first,false⟩,A6,c6,hL2,by simp,by simp[*],by first | exact HN | (rw[HLN.out] at HN;exact HN)⟩
        case measure=>simp[intOf];omega
     ·have hpe2:(op == L.first.prec)=false:=by simpa using hpe
      have hL2:Hid (L=Lfc.low l (s.take (j+1))):=Lib.hid (by rw[HSTEP.out,Lfc.lowStep_not _ _ _ hcase hpe])
      go_wp2_with fail
      go_roundw
      case rel=>exact⟨j+1,by omega,by go_num,L,A',c',hL2,rfl,rfl,I5⟩
      case measure=>simp[intOf];omega
  ·have hjl:j=s.length:=by omega
   have HL2:Hid (L=Lfc.low l s):=Lib.hid (by rw[HL.out,hjl,List.take_length])
   obtain⟨t0,t1,t2⟩:=cells3 HI.out.first
   obtain⟨s1,s2,s3,g1,g2,g3,⟨y0,y1,y2⟩,⟨f0,f1,f2⟩,hq,ho⟩:=put3 (W:=wr.drew) HI.out.first (S L.first.name) (.int .i64 L.first.fix) (.int .i64 L.first.prec)
   have HO:=Lib.hid ho
   have HQ:=Lib.hid hq
   obtain⟨e0,e1,e2⟩:=cells3 hq
   clear hq ho
   have hfin:∀x y,x=Ending.returned (.tuple #[.slice A' L.at_.length c',.agg #[S L.first.name,.int .i64 L.first.fix,.int .i64 L.first.prec],.bool L.same])→y=s3→∃A' c',x=.returned (.tuple #[.slice A' (Lfc.low l s).at_.length c',opV (Lfc.low l s).first,.bool (Lfc.low l s).same])∧Hid (y.ownsRow w.heap.size 3 1 (.slice A' (Lfc.low l s).at_.length c') (Lfc.low l s).at_.length (natCells (Lfc.low l s).at_))∧Below w.heap.size w y:=fun x y hx hy=>by
    subst hx hy
    rw[←HL2.out]
    refine⟨A',c',rfl,Lib.hid (own_mono (World.ownsRow.kept (w:=wr.drew) HI.out.own.drew HO.out (Or.inr (fun e=>by have:=own_block_ge HI.out.own _ e;omega))) (by omega)),Oth.below HI.out.bel.drew HO.out (Nat.le_refl _) HI.out.bel.size⟩
   have HF:=Lib.hid hfin
   clear hfin
   go_wp2_with fail
   go_region_held3 (fun W=>W.cell? ⟨w.heap.size,0,none⟩=some (S L.first.name)∧W.cell? ⟨w.heap.size,1,none⟩=some (.int .i64 L.first.fix)∧W.cell? ⟨w.heap.size,2,none⟩=some (.int .i64 L.first.prec))
    (first | exact⟨t0,t1,t2⟩ | exact⟨e0,e1,e2⟩)
    (fail)
   all_goals
    go_wp2_with fail
    refine bodyPost_ret (results_op3 rfl _ _ _ _ _ _ rfl HQ.out) rfl ?_
    exact HF.out _ _ rfl rfl
end Go.Proofs.YthajalgkjonaaaaGreatDoor
