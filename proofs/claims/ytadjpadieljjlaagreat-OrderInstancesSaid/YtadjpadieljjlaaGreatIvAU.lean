/- Parts of the proof that no input makes the law false: OcAk2, OcAk3, OcAkR. -/
import Derived.Test.YtadjpadieljjlaaGreatIvAT
set_option linter.unusedVariables false
set_option linter.unusedSimpArgs false
set_option maxRecDepth 100000
set_option maxHeartbeats 32000000
namespace Go.Proofs.YtadjpadieljjlaaGreat
open Go.RowKit Go.Maps
structure QuP (q:Nat→Prop) (w:World) (fs:List Lfc.Fact) (F:Option Addr) (o p:Lfc.Ord) (vo vp:Value) (ts us:List Lfc.Raw) (L R:Option Addr) (cl cr:Nat) (ks:List Int) (A0:Option Addr):Prop where
 fl:fs.length≤3
 rl:∀f∈fs,f.rel=1∨f.rel=2∨f.rel=3
 ff:FactsP q w F fs
 os:o.size≤20
 ps:p.size≤20
 vo:OrdVP q w o vo
 vp:OrdVP q w p vp
 n1:1≤ts.length
 n:ts.length≤3
 eq:us.length=ts.length
 l:L=none→ts.length=0∧cl=0
 r:R=none→us.length=0∧cr=0
 tt:TreesAtP q w L ts
 uu:TreesAtP q w R us
 kl:ks.length≤5
 kk:IntsP q w A0 ks
 zt:∀t∈ts,t.size≤40
 zu:∀t∈us,Lfc.good t
 gf:∀f∈fs,f.l.size≤40∧(Lfc.good f.l∨f.l∈ts)∧Lfc.good f.r
def AskAns (w:World) (T:Nat) (e:Ending) (w':World):Prop :=
 (∃ (fs:List Lfc.Fact) (F:Option Addr) (f0:Nat) (rel:Int) (o p:Lfc.Ord) (k1 a1 k2 a2:Int) (A1 A2:Option Addr) (l1 c1 l2 c2:Nat) (ts us:List Lfc.Raw) (L R:Option Addr) (cl cr:Nat) (ks:List Int) (A0:Option Addr) (c0:Nat),
  e=.returned (.agg #[.slice F fs.length f0,.int .i64 rel,.int .i64 k1,.int .i64 a1,.slice A1 l1 c1,.int .i64 k2,.int .i64 a2,.slice A2 l2 c2,.slice L ts.length cl,.slice R us.length cr,.slice A0 ks.length c0]) ∧
  (rel=1∨rel=2∨rel=3)∧(fs.length≤f0∧(F=none→f0=0))∧QuP (fun b=>w.heap.size≤b) w' fs F o p (.agg #[.int .i64 k1,.int .i64 a1,.slice A1 l1 c1]) (.agg #[.int .i64 k2,.int .i64 a2,.slice A2 l2 c2]) ts us L R cl cr ks A0)∧TapeI T w'∧Oth T w w'
def FRow (q:Nat→Prop) (w:World):List Lfc.Fact→List Value→Prop
 | [],xs=>xs=[]
 | f :: r,xs=>∃k n p ls A c k' n' p' rs A' c' ys,xs=.int .i64 k :: S n :: .int .i64 p :: .slice A (List.length ls) c :: .int .i64 f.rel :: .int .i64 k' :: S n' :: .int .i64 p' :: .slice A' (List.length rs) c' :: ys∧(f.l=.node k n p ls∧f.r=.node k' n' p' rs) ∧
   (TreeVP q w f.l (.agg #[.int .i64 k,S n,.int .i64 p,.slice A (List.length ls) c])∧TreeVP q w f.r (.agg #[.int .i64 k',S n',.int .i64 p',.slice A' (List.length rs) c']))∧FRow q w r ys
theorem FRow.keep {q q':Nat→Prop} {w w':World} (hk:∀b,q b→b<w.heap.size→w'.heap[b]?=w.heap[b]?) (hs:w.heap.size≤w'.heap.size) (hq:∀b,b<w.heap.size→q b→q' b):∀ {fs:List Lfc.Fact} {xs:List Value},FRow q w fs xs→FRow q' w' fs xs
 | [],xs,h=>by rw [FRow] at h ⊢;exact h
 | f :: r,xs,h=>by
  rw [FRow] at h ⊢
  obtain ⟨k,n,p,ls,A,c,k',n',p',rs,A',c',ys,hx,he,⟨h1,h2⟩,hr⟩:=h
  exact ⟨k,n,p,ls,A,c,k',n',p',rs,A',c',ys,hx,he,⟨h1.keep hk hs hq,h2.keep hk hs hq⟩,hr.keep hk hs hq⟩
theorem FRow.append {q:Nat→Prop} {w:World} {gs:List Lfc.Fact} {zs:List Value} (hz:FRow q w gs zs):∀ {fs:List Lfc.Fact} {xs:List Value},FRow q w fs xs→FRow q w (fs++gs) (xs++zs)
 | [],xs,h=>by rw [FRow] at h;subst h;exact hz
 | f :: r,xs,h=>by
  rw [FRow] at h
  obtain ⟨k,n,p,ls,A,c,k',n',p',rs,A',c',ys,rfl,he,h12,hr⟩:=h
  rw [List.cons_append,FRow]
  exact ⟨k,n,p,ls,A,c,k',n',p',rs,A',c',ys++zs,by simp,he,h12,FRow.append hz hr⟩
theorem FRow.lie {q:Nat→Prop} {w:World} {b:Nat}:∀ {fs:List Lfc.Fact} {xs:List Value} {o:Nat},FRow q w fs xs→(∀j u,xs[j]?=some u→w.cell? ⟨b,o+j,none⟩=some u)→∀i (h:i<fs.length),FactO q w b (o+i*9) fs[i]
 | [],_,_,_,_,i,h=>by cases h
 | f :: r,xs,o,h,hc,i,hi=>by
  rw [FRow] at h
  obtain ⟨k,n,p,ls,A,c,k',n',p',rs,A',c',ys,rfl,⟨e1,e2⟩,⟨h1,h2⟩,hr⟩:=h
  cases i with
  | zero=>exact ⟨k,n,p,ls,A,c,k',n',p',rs,A',c',e1,e2,⟨by simpa using hc 0 _ rfl,by simpa using hc 1 _ rfl,by simpa using hc 2 _ rfl,by simpa using hc 3 _ rfl⟩,by simpa using hc 4 _ rfl,⟨by simpa using hc 5 _ rfl,by simpa using hc 6 _ rfl,by simpa using hc 7 _ rfl,by simpa using hc 8 _ rfl⟩,h1,h2⟩
  | succ i =>
   have:=FRow.lie (o:=o+9) hr (fun j u hj=>by
    have:=hc (j+9) u (by simpa using hj)
    rw [show o+9+j=o+(j+9) by omega]
    exact this) i (by simpa using hi)
   rw [show o+(i+1)*9=o+9+i*9 by omega]
   exact this
theorem factsP_own {q:Nat→Prop} {w:World} {base:Nat} {F:Option Addr} {n c:Nat} {xs:List Value} {fs:List Lfc.Fact} (hl:fs.length=n) (h:w.ownsRow base 70 9 (.slice F n c) n xs) (hq:∀b,base≤b→q b) (hr:FRow q w fs xs):FactsP q w F fs:=fun hne=>by
 rcases h.2 with ⟨_,e0⟩ | ⟨g,cap,cur,hv,hbg,hg,_⟩
 ·exact absurd (List.length_eq_zero_iff.1 (hl.trans e0)) hne
 injection hv with e1 _ _
 refine ⟨g,0,e1,zL hg,hq g hbg,hr.lie (fun j u hj=>?_)⟩
 subst e1
 have:=h.cells (g:=g) rfl j u hj
 rw [ocell_add] at this
 simpa using this
theorem treesP_own {q:Nat→Prop} {w:World} {base:Nat} {A:Option Addr} {n c:Nat} {xs:List Value} {ts:List Lfc.Raw} (hl:ts.length=n) (h:w.ownsRow base 51 4 (.slice A n c) n xs) (hq:∀b,base≤b→q b) (hr:RowP q w ts xs):TreesAtP q w A ts∧(A=none→n=0∧c=0):=by
 rcases h.2 with ⟨hv,e0⟩ | ⟨g,cap,cur,hv,hbg,hg,_⟩
 ·injection hv with e1 _ e3
  exact ⟨fun hne=>absurd (List.length_eq_zero_iff.1 (hl.trans e0)) hne,fun _=>⟨e0,e3⟩⟩
 injection hv with e1 _ e3
 subst e1 e3
 exact ⟨fun _=>⟨g,0,rfl,zL hg,hq g hbg,hr.lie (own_cells h)⟩,fun e=>by cases e⟩
structure As2 (w wB:World) (T Qb:Nat) (rel:Int) (A0:Option Addr) (nk c0:Nat) (ks:List Int) (n:Nat) (ts us:List Lfc.Raw) (AL:Option Addr) (cl:Nat) (AR:Option Addr) (cr:Nat) (fs:List Lfc.Fact) (nf:Nat) (F:Option Addr) (f0:Nat) (W:World):Prop where
 blk:W.heap[Qb]?=some (.cells #[.slice F nf f0,.int .i64 rel,.int .i64 0,.int .i64 0,.slice none 0 0,.int .i64 0,.int .i64 0,.slice none 0 0,.slice AL n cl,.slice AR n cr,.slice A0 nk c0] 29 (0,0))
 lf:fs.length=nf
 L:TreesAtP (fun b=>w.heap.size<b∧b≠Qb∧(Value.slice F nf f0).ownBlock≠some b) W AL ts
 R:TreesAtP (fun b=>w.heap.size<b∧b≠Qb∧(Value.slice F nf f0).ownBlock≠some b) W AR us
 row:∃xF,W.ownsRow wB.heap.size 70 9 (.slice F nf f0) nf xF∧FRow (fun b=>w.heap.size<b∧b≠Qb∧(Value.slice F nf f0).ownBlock≠some b) W fs xF
 ks:IntsP (fun b=>w.heap.size<b∧b≠Qb∧(Value.slice F nf f0).ownBlock≠some b) W A0 ks
 tape:TapeI T W
 oth:Oth T w W
 size:wB.heap.size≤W.heap.size
 gf:∀f∈fs,(f.rel=1∨f.rel=2∨f.rel=3)∧f.l.size≤40∧(Lfc.good f.l∨f.l∈ts)∧Lfc.good f.r
 res:W.heap[w.heap.size]?=some (.cells #[.slice none 0 0,.int .i64 0,.int .i64 0,.int .i64 0,.slice none 0 0,.int .i64 0,.int .i64 0,.slice none 0 0,.slice none 0 0,.slice none 0 0,.slice none 0 0] 29 (0,0))
theorem As1.two {w w3 W:World} {T Qb nk c0 k cl cr:Nat} {rel:Int} {A0 AL AR:Option Addr} {ks:List Int} {ts us:List Lfc.Raw} (h:As1 w w3 T Qb rel A0 nk c0 ks k ts us AL cl AR cr W) (hQ:w.heap.size<Qb) (hQ3:Qb<w3.heap.size) :
  As2 w W T Qb rel A0 nk c0 ks k ts us AL cl AR cr [] 0 none 0 W∧(AL=none→k=0∧cl=0)∧(AR=none→k=0∧cr=0):=by
 obtain ⟨xL,xR,h1,h2,h3,h4⟩:=h.rows
 have hnil:∀b,(Value.slice none 0 0).ownBlock≠some b:=fun b e=>by simp [Value.ownBlock] at e
 have hL:=treesP_own (q:=fun b=>w.heap.size<b∧b≠Qb∧(Value.slice none 0 0).ownBlock≠some b) h.lt h1 (fun b hb=>⟨by omega,by omega,hnil b⟩) (h3.keep (fun _ _ _=>rfl) (zN _) (fun b _ hb=>⟨by have:=hb.1;omega,by have:=hb.1;omega,hnil b⟩))
 have hR:=treesP_own (q:=fun b=>w.heap.size<b∧b≠Qb∧(Value.slice none 0 0).ownBlock≠some b) h.lu h2 (fun b hb=>⟨by omega,by omega,hnil b⟩) (h4.keep (fun _ _ _=>rfl) (zN _) (fun b _ hb=>⟨by have:=hb.1;omega,by have:=hb.1;omega,hnil b⟩))
 exact ⟨⟨h.blk,rfl,hL.1,hR.1,⟨[],World.ownsRow_nil W W.heap.size _ 9,by rw [FRow]⟩,h.ks.keep (fun _ _ _=>rfl) (zN _) (fun b _ hb=>⟨hb.1,hb.2.2,hnil b⟩),h.tape,h.oth,zN _,(fun f hf=>by cases hf),h.res⟩,hL.2,hR.2⟩
section
variable {w wB W W':World} {T Qb nk c0 n cl cr nf f0:Nat} {rel:Int} {A0 AL AR F:Option Addr} {ks:List Int} {ts us:List Lfc.Raw} {fs:List Lfc.Fact}
theorem As2.othT (h:As2 w wB T Qb rel A0 nk c0 ks n ts us AL cl AR cr fs nf F f0 W) (hT:T<w.heap.size) (hQ:w.heap.size<Qb) (hB:w.heap.size≤wB.heap.size) (ho:Oth T W W') (ht:TapeI T W'):As2 w wB T Qb rel A0 nk c0 ks n ts us AL cl AR cr fs nf F f0 W':=by
 obtain ⟨xF,h1,h2⟩:=h.row
 have hk:∀b,(w.heap.size<b∧b≠Qb∧(Value.slice F nf f0).ownBlock≠some b)→b<W.heap.size→W'.heap[b]?=W.heap[b]?:=fun b hb hlt=>ho.block b hlt (fun e=>by have:=zO e;omega)
 exact ⟨ho.heap h.blk (by omega),h.lf,h.L.keep hk ho.size (fun _ _ h=>h),h.R.keep hk ho.size (fun _ _ h=>h),⟨xF,ownsRow_keep h1 (fun g hg=>ho.block g (h1.lt g hg).2 (fun e=>by have:=zO e;have:=(h1.lt g hg).1;omega)),h2.keep hk ho.size (fun _ _ h=>h)⟩,h.ks.keep hk ho.size (fun _ _ h=>h),ht,h.oth.trans ho,Nat.le_trans h.size ho.size,h.gf,ho.heap h.res (by omega)⟩
theorem As2.push {w9 w10:World} {f:Lfc.Fact} {k p k' p':Int} {n1 n2:List UInt8} {ls rs:List Lfc.Raw} {A A' F':Option Addr} {c c' f0':Nat} {xF:List Value} {o:Obj} (h:As2 w wB T Qb rel A0 nk c0 ks n ts us AL cl AR cr fs nf F f0 W) (hT:T<w.heap.size) (hQ:w.heap.size<Qb) (hQB:Qb<wB.heap.size)
  (hown:W.ownsRow wB.heap.size 70 9 (.slice F nf f0) nf xF) (hrow:FRow (fun b=>w.heap.size<b∧b≠Qb∧(Value.slice F nf f0).ownBlock≠some b) W fs xF) (he:f.l=.node k n1 p ls∧f.r=.node k' n2 p' rs)
  (hl:TreeVP (fun b=>w.heap.size<b∧b≠Qb∧(Value.slice F nf f0).ownBlock≠some b) W f.l (.agg #[.int .i64 k,S n1,.int .i64 p,.slice A (List.length ls) c])) (hr:TreeVP (fun b=>w.heap.size<b∧b≠Qb∧(Value.slice F nf f0).ownBlock≠some b) W f.r (.agg #[.int .i64 k',S n2,.int .i64 p',.slice A' (List.length rs) c']))
  (hg:(f.rel=1∨f.rel=2∨f.rel=3)∧f.l.size≤40∧(Lfc.good f.l∨f.l∈ts)∧Lfc.good f.r)
  (hown':w10.ownsRow wB.heap.size 70 9 (.slice F' (nf+1) f0') (nf+1) (xF++[.int .i64 k,S n1,.int .i64 p,.slice A (List.length ls) c,.int .i64 f.rel,.int .i64 k',S n2,.int .i64 p',.slice A' (List.length rs) c'])) (hgr:(W.alloc o).grownBy w10 (Value.slice F nf f0).ownBlock) (hloc:(Value.slice F' (nf+1) f0').ownBlock=(Value.slice F nf f0).ownBlock∨(Value.slice F' (nf+1) f0').ownBlock=some (W.heap.size+1)) :
  w10.heap[Qb]?=W.heap[Qb]?∧As2 w wB T Qb rel A0 nk c0 ks n ts us AL cl AR cr (fs++[f]) (nf+1) F' f0' (w10.setCell ⟨Qb,0,none⟩ (.slice F' (nf+1) f0')):=by
 have hs10:W.heap.size+1≤w10.heap.size:=by have:=hgr.size;simpa using this
 have hsz:=h.size
 have hw:=h.oth.size
 have hlt:∀b,(Value.slice F nf f0).ownBlock=some b→wB.heap.size≤b∧b<W.heap.size:=fun b e=>hown.lt b e
 have k10:∀b,b<W.heap.size→(Value.slice F nf f0).ownBlock≠some b→w10.heap[b]?=W.heap[b]?:=fun b hb hne=>(hgr.block b (by simp;omega) (fun e=>hne e.symm)).trans (zA _ _ _ hb)
 have hQW:Qb<W.heap.size:=zL h.blk
 have e10:w10.heap[Qb]?=W.heap[Qb]?:=k10 Qb hQW (fun e=>by have:=(hlt _ e).1;omega)
 have ho:Oth Qb w10 (w10.setCell ⟨Qb,0,none⟩ (.slice F' (nf+1) f0')):=Oth.set _ _
 have hso:=ho.size
 have hk:∀b,(w.heap.size<b∧b≠Qb∧(Value.slice F nf f0).ownBlock≠some b)→b<W.heap.size→(w10.setCell ⟨Qb,0,none⟩ (.slice F' (nf+1) f0')).heap[b]?=W.heap[b]?:=fun b hb hlt=>(ho.block b (by omega) (fun e=>hb.2.1 (zO e))).trans (k10 b hlt hb.2.2)
 have hq:∀b,b<W.heap.size→(w.heap.size<b∧b≠Qb∧(Value.slice F nf f0).ownBlock≠some b)→(w.heap.size<b∧b≠Qb∧(Value.slice F' (nf+1) f0').ownBlock≠some b):=fun b hlt hb=>⟨hb.1,hb.2.1,fun e=>by
  rcases hloc with e2 | e2
  ·exact hb.2.2 (e2 ▸ e)
  rw [e2] at e;have:=zO e;omega⟩
 have hss:W.heap.size≤(w10.setCell ⟨Qb,0,none⟩ (.slice F' (nf+1) f0')).heap.size:=by omega
 have hold:∀b,b<wB.heap.size→b≠Qb→(w10.setCell ⟨Qb,0,none⟩ (.slice F' (nf+1) f0')).heap[b]?=W.heap[b]?:=fun b hb hne=>(ho.block b (by omega) (fun e=>hne (zO e))).trans (k10 b (by omega) (fun e=>by have:=(hlt _ e).1;omega))
 refine ⟨e10,⟨?_,by rw [List.length_append,h.lf];rfl,h.L.keep hk hss hq,h.R.keep hk hss hq,⟨_,ownsRow_keep hown' (fun g hg=>ho.block g (hown'.lt g hg).2 (fun e=>by have:=zO e;have:=(hown'.lt g hg).1;omega)),FRow.append (gs:=[f]) (zs:=[.int .i64 k,S n1,.int .i64 p,.slice A (List.length ls) c,.int .i64 f.rel,.int .i64 k',S n2,.int .i64 p',.slice A' (List.length rs) c']) (by rw [FRow];exact ⟨k,n1,p,ls,A,c,k',n2,p',rs,A',c',[],rfl,he,⟨hl.keep hk hss hq,hr.keep hk hss hq⟩,by rw [FRow]⟩) (hrow.keep hk hss hq)⟩,h.ks.keep hk hss hq,h.tape.like (fun b hb=>hold b (by omega) (by omega)),?_,by omega,fun g hg2=>?_,(hold _ (by omega) (by omega)).trans h.res⟩⟩
 ·have e11:=e10.trans h.blk
  simp [World.setCell,Array.getElem?_modify,e11]
 ·exact ⟨ho.os.trans (hgr.os.trans h.oth.os),ho.tape.trans (hgr.tape.trans h.oth.tape),ho.output.trans (hgr.output.trans h.oth.output),by omega,fun b hb hn=>(hold b (by omega) (by omega)).trans (h.oth.block b hb hn)⟩
 rcases List.mem_append.1 hg2 with h1 | h1
 ·exact h.gf g h1
 rw [List.mem_singleton] at h1;subst h1;exact hg
end
def FVar (w wr:World) (T Qb:Nat) (vF:Value) (ts:List Lfc.Raw) (g:Nat) (wx:World):Prop:=∃ (f:Lfc.Fact) (k:Int) (n:List UInt8) (p:Int) (ls:List Lfc.Raw) (A:Option Addr) (c:Nat) (k':Int) (n':List UInt8) (p':Int) (rs:List Lfc.Raw) (A':Option Addr) (c':Nat),
 wr.heap.size≤g∧(f.l=.node k n p ls∧f.r=.node k' n' p' rs)∧wx.heap[g]?=some (.cells #[.int .i64 k,S n,.int .i64 p,.slice A (List.length ls) c,.int .i64 f.rel,.int .i64 k',S n',.int .i64 p',.slice A' (List.length rs) c'] 70 (0,0)) ∧
 (TreeVP (fun b=>(w.heap.size<b∧b≠Qb∧vF.ownBlock≠some b)∧b≠g) wx f.l (.agg #[.int .i64 k,S n,.int .i64 p,.slice A (List.length ls) c])∧TreeVP (fun b=>(w.heap.size<b∧b≠Qb∧vF.ownBlock≠some b)∧b≠g) wx f.r (.agg #[.int .i64 k',S n',.int .i64 p',.slice A' (List.length rs) c'])) ∧
 ((f.rel=1∨f.rel=2∨f.rel=3)∧f.l.size≤40∧(Lfc.good f.l∨f.l∈ts)∧Lfc.good f.r)∧Oth T wr wx∧TapeI T wx
theorem FVar.othT {w wr wx wy:World} {T Qb g:Nat} {vF:Value} {ts:List Lfc.Raw} (h:FVar w wr T Qb vF ts g wx) (hT:T<w.heap.size) (hw:w.heap.size≤wr.heap.size) (ho:Oth T wx wy) (ht:TapeI T wy):FVar w wr T Qb vF ts g wy:=by
 obtain ⟨f,k,n,p,ls,A,c,k',n',p',rs,A',c',hg,he,hq,⟨h1,h2⟩,hgood,ho1,ht1⟩:=h
 have hk:∀b,((w.heap.size<b∧b≠Qb∧vF.ownBlock≠some b)∧b≠g)→b<wx.heap.size→wy.heap[b]?=wx.heap[b]?:=fun b hb hlt=>ho.block b hlt (fun e=>by have:=zO e;omega)
 exact ⟨f,k,n,p,ls,A,c,k',n',p',rs,A',c',hg,he,ho.heap hq (by omega),⟨h1.keep hk ho.size (fun _ _ h=>h),h2.keep hk ho.size (fun _ _ h=>h)⟩,hgood,ho1.trans ho,ht⟩
theorem rel_cell {W:World} {g r:Nat} (h:W.heap[g]?=some (.cells #[.int .i64 1,.int .i64 2,.int .i64 3] 3 (0,0))) (hr:r<3):W.cell? ⟨g,r,none⟩=some (.int .i64 ((r:Int)+1)):=by
 match r,hr with
 | 0,_=>exact zC h 0
 | 1,_=>exact zC h 1
 | 2,_=>exact zC h 2
theorem tree_elem {w wr:World} {T:Nat} {q:Nat→Prop} {A:Option Addr} {ts:List Lfc.Raw} {i:Nat} (hT:T<w.heap.size) (hi:i<ts.length) (h:TreesAtP q wr A ts) (hq:∀b,q b→b≠T) :
  ∃b o kk nn pp ls B c,A=some ⟨b,o,none⟩∧(∀W:World,Oth T wr W→W.cell? ⟨b,o+i*4,none⟩=some (.int .i64 kk)∧W.cell? ⟨b,o+i*4+1,none⟩=some (S nn)∧W.cell? ⟨b,o+i*4+2,none⟩=some (.int .i64 pp)∧W.cell? ⟨b,o+i*4+3,none⟩=some (.slice B (List.length ls) c))∧Lfc.Raw.node kk nn pp ls∈ts∧TreeVP q wr (.node kk nn pp ls) (.agg #[.int .i64 kk,S nn,.int .i64 pp,.slice B (List.length ls) c]):=by
 obtain ⟨b,o,hA,hlt,hqb,hts⟩:=h (by intro h0;rw [h0] at hi;simp at hi)
 obtain ⟨v0,v1,v2,v3,h0,h1,h2,h3,hP⟩:=treesP_at ts o i hi hts
 cases ht:ts[i] with
 | node k n p us =>
  have hP':=hP
  rw [ht,TreeP] at hP
  obtain ⟨rfl,rfl,_,rfl,B,c,rfl,_⟩:=hP
  refine ⟨b,o,k,n,p,us,B,c,hA,fun W hW=>?_,ht ▸ List.getElem_mem hi,⟨_,_,_,_,rfl,by rw [←ht];exact hP'⟩⟩
  have hc:=fun j=>hW.cell (p:=⟨b,j,none⟩) hlt (hq b hqb)
  exact ⟨(hc _).trans h0,(hc _).trans h1,(hc _).trans h2,(hc _).trans h3⟩
end Go.Proofs.YtadjpadieljjlaaGreat
namespace Go.Proofs.YtadjpadieljjlaaGreat
open Go.RowKit Go.Maps
theorem factInfo:(Tryz.prog.info? 70).map (fun i=>(i.zero,i.size,i.bytes))=some (some (.agg #[.int .i64 0,S [],.int .i64 0,.slice none 0 0,.int .i64 0,.int .i64 0,S [],.int .i64 0,.slice none 0 0]),9,120):=by kernel_rfl
theorem que_size:(Tryz.prog.info? 29).map (·.size)=some 11:=by kernel_rfl
theorem results_que {fn:Func} {p:Tmp} (h:fn.results=#[.cell p 29]) (tmps:Array Value) (w:World) (g:Nat) (v0 v1 v2 v3 v4 v5 v6 v7 v8 v9 v10:Value) (hp:tmps.getD p undef=.pointer (some ⟨g,0,none⟩)) (hg:w.heap[g]?=some (.cells #[v0,v1,v2,v3,v4,v5,v6,v7,v8,v9,v10] 29 (0,0))) :
  (results fn tmps).run Tryz.prog w=.ok (.agg #[v0,v1,v2,v3,v4,v5,v6,v7,v8,v9,v10]) w :=
 results_cell_row h tmps w g _ _ _ _ hp hg Tryz.underlying29 rfl que_size
theorem cells9q {W:World} {g:Nat} {v0 v1 v2 v3 v4 v5 v6 v7 v8:Value} {t:TypeId} (h:W.heap[g]?=some (.cells #[v0,v1,v2,v3,v4,v5,v6,v7,v8] t (0,0))):W.cell? ⟨g,0,none⟩=some v0∧W.cell? ⟨g,1,none⟩=some v1∧W.cell? ⟨g,2,none⟩=some v2∧W.cell? ⟨g,3,none⟩=some v3∧W.cell? ⟨g,4,none⟩=some v4∧W.cell? ⟨g,5,none⟩=some v5∧W.cell? ⟨g,6,none⟩=some v6∧W.cell? ⟨g,7,none⟩=some v7∧W.cell? ⟨g,8,none⟩=some v8:=⟨zC h 0,zC h 1,zC h 2,zC h 3,zC h 4,zC h 5,zC h 6,zC h 7,zC h 8⟩
theorem cells11q {W:World} {g:Nat} {v0 v1 v2 v3 v4 v5 v6 v7 v8 v9 v10:Value} {t:TypeId} (h:W.heap[g]?=some (.cells #[v0,v1,v2,v3,v4,v5,v6,v7,v8,v9,v10] t (0,0))):W.cell? ⟨g,0,none⟩=some v0∧W.cell? ⟨g,1,none⟩=some v1∧W.cell? ⟨g,2,none⟩=some v2∧W.cell? ⟨g,3,none⟩=some v3∧W.cell? ⟨g,4,none⟩=some v4∧W.cell? ⟨g,5,none⟩=some v5∧W.cell? ⟨g,6,none⟩=some v6∧W.cell? ⟨g,7,none⟩=some v7∧W.cell? ⟨g,8,none⟩=some v8∧W.cell? ⟨g,9,none⟩=some v9∧W.cell? ⟨g,10,none⟩=some v10:=⟨zC h 0,zC h 1,zC h 2,zC h 3,zC h 4,zC h 5,zC h 6,zC h 7,zC h 8,zC h 9,zC h 10⟩
theorem oneCell9 {k p r k' p':Int} {n n':List UInt8} {A A':Option Addr} {l c l' c':Nat}:∀u∈[Value.int .i64 k,S n,.int .i64 p,.slice A l c,.int .i64 r,.int .i64 k',S n',.int .i64 p',.slice A' l' c'],u.oneCell'=true:=by
 intro u hu
 simp only [List.mem_cons,List.not_mem_nil,or_false] at hu
 rcases hu with rfl | rfl | rfl | rfl | rfl | rfl | rfl | rfl | rfl <;> rfl
section
variable {w wr wx:World} {T Qb g:Nat} {vF:Value} {ts:List Lfc.Raw}
theorem FVar.tape (h:FVar w wr T Qb vF ts g wx):TapeI T wx:=by obtain ⟨f,k,n,p,ls,A,c,k',n',p',rs,A',c',hg,he,hq,h12,hgood,ho1,ht1⟩:=h;exact ht1
theorem FVar.oth (h:FVar w wr T Qb vF ts g wx):Oth T wr wx:=by obtain ⟨f,k,n,p,ls,A,c,k',n',p',rs,A',c',hg,he,hq,h12,hgood,ho1,ht1⟩:=h;exact ho1
theorem FVar.set {w2 s:World} {f:Lfc.Fact} {k p k' p':Int} {n n':List UInt8} {ls rs:List Lfc.Raw} {A A':Option Addr} {c c':Nat} (h:FVar w wr T Qb vF ts g wx) (hT:T<wr.heap.size) (ho:Oth T wx w2) (ht:TapeI T w2) (hs:Oth g w2 s) (he:f.l=.node k n p ls∧f.r=.node k' n' p' rs)
  (hblk:s.heap[g]?=some (.cells #[.int .i64 k,S n,.int .i64 p,.slice A (List.length ls) c,.int .i64 f.rel,.int .i64 k',S n',.int .i64 p',.slice A' (List.length rs) c'] 70 (0,0)))
  (hl:TreeVP (fun b=>(w.heap.size<b∧b≠Qb∧vF.ownBlock≠some b)∧b≠g) w2 f.l (.agg #[.int .i64 k,S n,.int .i64 p,.slice A (List.length ls) c]))
  (hr:TreeVP (fun b=>(w.heap.size<b∧b≠Qb∧vF.ownBlock≠some b)∧b≠g) w2 f.r (.agg #[.int .i64 k',S n',.int .i64 p',.slice A' (List.length rs) c']))
  (hg:(f.rel=1∨f.rel=2∨f.rel=3)∧f.l.size≤40∧(Lfc.good f.l∨f.l∈ts)∧Lfc.good f.r):FVar w wr T Qb vF ts g s:=by
 obtain ⟨f0,k0,n0,p0,ls0,A0,c0,k0',n0',p0',rs0,A0',c0',hgw,he0,hq,h12,hgood,ho1,ht1⟩:=h
 have hk:∀b,((w.heap.size<b∧b≠Qb∧vF.ownBlock≠some b)∧b≠g)→b<w2.heap.size→s.heap[b]?=w2.heap[b]?:=fun b hb hlt=>hs.block b hlt (fun e=>hb.2 (zO e))
 exact ⟨f,k,n,p,ls,A,c,k',n',p',rs,A',c',hgw,he,hblk,⟨hl.keep hk hs.size (fun _ _ h=>h),hr.keep hk hs.size (fun _ _ h=>h)⟩,hg,oth_put (ho1.trans ho) hs hgw,ht.oth (by omega) hs⟩
end
theorem fact_at {q:Nat→Prop} {w:World} {base:Nat} {F:Option Addr} {n c:Nat} {xs:List Value} {fs:List Lfc.Fact} {i:Nat} (hl:fs.length=n) (hi:i<n) (h:w.ownsRow base 70 9 (.slice F n c) n xs) (hr:FRow q w fs xs):∃g f,F=some ⟨g,0,none⟩∧base≤g∧g<w.heap.size∧f∈fs∧FactO q w g (i*9) f:=by
 rcases h.2 with ⟨_,e0⟩ | ⟨g,cap,cur,hv,hbg,hg,_⟩
 ·omega
 injection hv with e1 _ _
 refine ⟨g,fs[i]'(by omega),e1,hbg,zL hg,List.getElem_mem _,?_⟩
 have:=hr.lie (b:=g) (o:=0) (fun j u hj=>?_) i (by omega)
 ·simpa using this
 subst e1
 have:=h.cells (g:=g) rfl j u hj
 rw [ocell_add] at this
 simpa using this
theorem QuP.keep {q q':Nat→Prop} {w w':World} {fs:List Lfc.Fact} {F:Option Addr} {o p:Lfc.Ord} {vo vp:Value} {ts us:List Lfc.Raw} {L R:Option Addr} {cl cr:Nat} {ks:List Int} {A0:Option Addr} (hk:∀b,q b→b<w.heap.size→w'.heap[b]?=w.heap[b]?) (hs:w.heap.size≤w'.heap.size) (hq:∀b,b<w.heap.size→q b→q' b) (h:QuP q w fs F o p vo vp ts us L R cl cr ks A0):QuP q' w' fs F o p vo vp ts us L R cl cr ks A0 :=
 ⟨h.fl,h.rl,h.ff.keep hk hs hq,h.os,h.ps,h.vo.keep hk hs hq,h.vp.keep hk hs hq,h.n1,h.n,h.eq,h.l,h.r,h.tt.keep hk hs hq,h.uu.keep hk hs hq,h.kl,h.kk.keep hk hs hq,h.zt,h.zu,h.gf⟩
structure As3 (w:World) (T Qb:Nat) (rel:Int) (A0:Option Addr) (nk c0:Nat) (ks:List Int) (k:Nat) (ts us:List Lfc.Raw) (AL:Option Addr) (cl:Nat) (AR:Option Addr) (cr:Nat) (fs:List Lfc.Fact) (nf:Nat) (F:Option Addr) (f0:Nat) (o p:Lfc.Ord) (k1 a1:Int) (A1:Option Addr) (l1 c1:Nat) (k2 a2:Int) (A2:Option Addr) (l2 c2:Nat) (W:World):Prop where
 blk:W.heap[Qb]?=some (.cells #[.slice F nf f0,.int .i64 rel,.int .i64 k1,.int .i64 a1,.slice A1 l1 c1,.int .i64 k2,.int .i64 a2,.slice A2 l2 c2,.slice AL k cl,.slice AR k cr,.slice A0 nk c0] 29 (0,0))
 res:W.heap[w.heap.size]?=some (.cells #[.slice none 0 0,.int .i64 0,.int .i64 0,.int .i64 0,.slice none 0 0,.int .i64 0,.int .i64 0,.slice none 0 0,.slice none 0 0,.slice none 0 0,.slice none 0 0] 29 (0,0))
 qu:QuP (fun b=>w.heap.size<b∧b≠Qb) W fs F o p (.agg #[.int .i64 k1,.int .i64 a1,.slice A1 l1 c1]) (.agg #[.int .i64 k2,.int .i64 a2,.slice A2 l2 c2]) ts us AL AR cl cr ks A0
 tape:TapeI T W
 oth:Oth T w W
 lf:fs.length=nf
 lt:ts.length=k
 lu:us.length=k
 lk:ks.length=nk
 cap:nf≤f0∧(F=none→f0=0)
section
variable {w wB W W':World} {T Qb nk c0 k cl cr nf f0 l1 c1 l2 c2:Nat} {rel k1 a1 k2 a2:Int} {A0 AL AR F A1 A2:Option Addr} {ks:List Int} {ts us:List Lfc.Raw} {fs:List Lfc.Fact} {o p:Lfc.Ord}
theorem As3.othT (h:As3 w T Qb rel A0 nk c0 ks k ts us AL cl AR cr fs nf F f0 o p k1 a1 A1 l1 c1 k2 a2 A2 l2 c2 W) (hT:T<w.heap.size) (hQ:w.heap.size<Qb) (ho:Oth T W W') (ht:TapeI T W'):As3 w T Qb rel A0 nk c0 ks k ts us AL cl AR cr fs nf F f0 o p k1 a1 A1 l1 c1 k2 a2 A2 l2 c2 W' :=
 ⟨ho.heap h.blk (by omega),ho.heap h.res (by omega),h.qu.keep (fun b hb hlt=>ho.block b hlt (fun e=>by have:=zO e;omega)) ho.size (fun _ _ h=>h),ht,h.oth.trans ho,h.lf,h.lt,h.lu,h.lk,h.cap⟩
theorem As3.pset {W1 s:World} {p':Lfc.Ord} {k3 a3:Int} {A3:Option Addr} {l3 c3:Nat} (h:As3 w T Qb rel A0 nk c0 ks k ts us AL cl AR cr fs nf F f0 o p k1 a1 A1 l1 c1 k2 a2 A2 l2 c2 W) (hT:T<w.heap.size) (hQ:w.heap.size<Qb) (ho:Oth T W W1) (ht:TapeI T W1) (hv:OrdVP (fun b=>W.heap.size≤b) W1 p' (.agg #[.int .i64 k3,.int .i64 a3,.slice A3 l3 c3])) (hz:p'.size≤20) (hs:Oth Qb W1 s)
  (hblk:s.heap[Qb]?=some (.cells #[.slice F nf f0,.int .i64 rel,.int .i64 k1,.int .i64 a1,.slice A1 l1 c1,.int .i64 k3,.int .i64 a3,.slice A3 l3 c3,.slice AL k cl,.slice AR k cr,.slice A0 nk c0] 29 (0,0))):As3 w T Qb rel A0 nk c0 ks k ts us AL cl AR cr fs nf F f0 o p' k1 a1 A1 l1 c1 k3 a3 A3 l3 c3 s:=by
 have h1:=h.othT hT hQ ho ht
 have hQW:=zL h.blk
 have hsz:=ho.size
 have hw:=h.oth.size
 have hk:∀b,(w.heap.size<b∧b≠Qb)→b<W1.heap.size→s.heap[b]?=W1.heap[b]?:=fun b hb hlt=>hs.block b hlt (fun e=>hb.2 (zO e))
 have hqu:=h1.qu.keep hk hs.size (fun _ _ h=>h)
 exact ⟨hblk,(hs.block _ (by omega) (fun e=>by have:=zO e;omega)).trans h1.res,{ hqu with ps:=hz,vp:=hv.keep (fun b hb hlt=>hs.block b hlt (fun e=>by have:=zO e;omega)) hs.size (fun b _ hb=>⟨by omega,by omega⟩) },ht.oth (by omega) hs,oth_put h1.oth hs (by omega),h.lf,h.lt,h.lu,h.lk,h.cap⟩
theorem As2.three {W1 s:World} (h:As2 w wB T Qb rel A0 nk c0 ks k ts us AL cl AR cr fs nf F f0 W) (hT:T<w.heap.size) (hQ:w.heap.size<Qb) (hQB:Qb<wB.heap.size) (ho:Oth T W W1) (ht:TapeI T W1) (hv:OrdVP (fun b=>W.heap.size≤b) W1 o (.agg #[.int .i64 k1,.int .i64 a1,.slice A1 l1 c1])) (hz:o.size≤20) (hs:Oth Qb W1 s)
  (hblk:s.heap[Qb]?=some (.cells #[.slice F nf f0,.int .i64 rel,.int .i64 k1,.int .i64 a1,.slice A1 l1 c1,.int .i64 k1,.int .i64 a1,.slice A1 l1 c1,.slice AL k cl,.slice AR k cr,.slice A0 nk c0] 29 (0,0)))
  (hnf:nf≤3) (hk1:1≤k∧k≤3) (hlt:ts.length=k) (hlu:us.length=k) (hlk:ks.length=nk) (hnk:nk≤5) (hL:AL=none→k=0∧cl=0) (hR:AR=none→k=0∧cr=0) (hzt:∀t,t∈ts→t.size≤40) (hzu:∀t,t∈us→Lfc.good t) :
  As3 w T Qb rel A0 nk c0 ks k ts us AL cl AR cr fs nf F f0 o o k1 a1 A1 l1 c1 k1 a1 A1 l1 c1 s:=by
 have hBw:w.heap.size≤wB.heap.size:=by omega
 have hsz:=ho.size
 have hsW:=h.size
 have h1:=h.othT hT hQ hBw ho ht
 obtain ⟨xF,hown,hrow⟩:=h1.row
 have hk:∀b,(w.heap.size<b∧b≠Qb)→b<W1.heap.size→s.heap[b]?=W1.heap[b]?:=fun b hb hlt=>hs.block b hlt (fun e=>hb.2 (zO e))
 have hF:FactsP (fun b=>w.heap.size<b∧b≠Qb) W1 F fs:=factsP_own h.lf hown (fun b hb=>⟨by omega,by omega⟩) (hrow.keep (fun _ _ _=>rfl) (zN _) (fun b _ hb=>⟨hb.1,hb.2.1⟩))
 have hV:OrdVP (fun b=>w.heap.size<b∧b≠Qb) s o (.agg #[.int .i64 k1,.int .i64 a1,.slice A1 l1 c1]):=hv.keep (fun b hb hlt=>hs.block b hlt (fun e=>by have:=zO e;omega)) hs.size (fun b _ hb=>⟨by omega,by omega⟩)
 refine ⟨hblk,(hs.block _ (by have:=zL h1.res;omega) (fun e=>by have:=zO e;omega)).trans h1.res,?_,ht.oth (by omega) hs,oth_put h1.oth hs (by omega),h.lf,hlt,hlu,hlk,?_⟩
 rotate_left
 ·rcases hown.2 with ⟨e,e0⟩ | ⟨g,cap,cur,e,hbg,hg,hnc,_,_,_⟩
  ·injection e with e1 e2 e3
   exact ⟨by omega,fun _=>e3⟩
  injection e with e1 e2 e3
  exact ⟨by omega,fun e4=>by rw [e1] at e4;cases e4⟩
 exact {
  fl:=by rw [h.lf];exact hnf
  rl:=fun f hf=>(h.gf f hf).1
  ff:=hF.keep hk hs.size (fun _ _ h=>h)
  os:=hz
  ps:=hz
  vo:=hV
  vp:=hV
  n1:=by omega
  n:=by omega
  eq:=by omega
  l:=fun e=>by rw [hlt];exact hL e
  r:=fun e=>by rw [hlu];exact hR e
  tt:=h1.L.keep (fun b hb hlt=>hk b ⟨hb.1,hb.2.1⟩ hlt) hs.size (fun b _ hb=>⟨hb.1,hb.2.1⟩)
  uu:=h1.R.keep (fun b hb hlt=>hk b ⟨hb.1,hb.2.1⟩ hlt) hs.size (fun b _ hb=>⟨hb.1,hb.2.1⟩)
  kl:=by omega
  kk:=h1.ks.keep (fun b hb hlt=>hk b ⟨hb.1,hb.2.1⟩ hlt) hs.size (fun b _ hb=>⟨hb.1,hb.2.1⟩)
  zt:=hzt
  zu:=hzu
  gf:=fun f hf=>(h.gf f hf).2 }
theorem As3.ans {s:World} (h:As3 w T Qb rel A0 nk c0 ks k ts us AL cl AR cr fs nf F f0 o p k1 a1 A1 l1 c1 k2 a2 A2 l2 c2 W) (hT:T<w.heap.size) (hrel:rel=1∨rel=2∨rel=3) (hs:Oth w.heap.size W s):AskAns w T (.returned (.agg #[.slice F nf f0,.int .i64 rel,.int .i64 k1,.int .i64 a1,.slice A1 l1 c1,.int .i64 k2,.int .i64 a2,.slice A2 l2 c2,.slice AL k cl,.slice AR k cr,.slice A0 nk c0])) s:=by
 have h2:=h.qu.keep (q':=fun b=>w.heap.size≤b) (fun b hb hlt=>hs.block b hlt (fun e=>by have:=zO e;omega)) hs.size (fun b _ hb=>Nat.le_of_lt hb.1)
 refine ⟨⟨fs,F,f0,rel,o,p,k1,a1,k2,a2,A1,A2,l1,c1,l2,c2,ts,us,AL,AR,cl,cr,ks,A0,c0,?_,hrel,⟨by rw [h.lf];exact h.cap.1,h.cap.2⟩,h2⟩,h.tape.oth hT hs,oth_put h.oth hs (zN _)⟩
 rw [h.lf,h.lt,h.lu,h.lk]
end
end Go.Proofs.YtadjpadieljjlaaGreat
namespace Go.Proofs.YtadjpadieljjlaaGreat
open Go.RowKit Go.Maps
abbrev oI3:Obj:=.cells #[.int .i64 1,.int .i64 2,.int .i64 3] 3
abbrev oZF:Obj:=.cells #[.int .i64 0,S [],.int .i64 0,.slice none 0 0,.int .i64 0,.int .i64 0,S [],.int .i64 0,.slice none 0 0] 70
theorem Oth.al {T:Nat} {w W:World} (h:Oth T w W) (o:Obj):Oth T w (W.alloc o):=h.trans (Oth.of_below ((zB W.heap.size W).alloc (zN _) o))
theorem TapeI.al {T:Nat} {W:World} (h:TapeI T W) (o:Obj):TapeI T (W.alloc o):=h.below ((zB W.heap.size W).alloc (zN _) o)
theorem al_heap {W:World} {g:Nat} {x:Obj} (h:W.heap[g]?=some x) (o:Obj):(W.alloc o).heap[g]?=some x:=(zA W o _ (zL h)).trans h
theorem v9a {q:Nat→Prop} {w W:World} {t:Lfc.Raw} {v:Value} (h:TreeVP q w t v) (hb:Below w.heap.size w W):TreeVP q W t v:=h.keep (fun b _ hlt=>hb.block b hlt) hb.size (fun _ _ h=>h)
theorem v9b {q:Nat→Prop} {w W:World} {g:Nat} {t:Lfc.Raw} {v:Value} (h:TreeVP q w t v) (hb:Below w.heap.size w W) (hg:w.heap.size≤g):TreeVP (fun b=>q b∧b≠g) W t v:=h.keep (fun b _ hlt=>hb.block b hlt) hb.size (fun b hlt hb=>⟨hb,by omega⟩)
theorem apT {ops:Array Oper} {o:Oper} {a:Act} {w:World} {K:Act→World→Prop} {Q:Exit→Act→World→Prop} {E:Prop} {s x:Operand} {base n g:Nat} {v:Value} {xs:List Value} (news:List Value)
  (hown:w.ownsRow base 51 4 v n xs) (hnews:∀j u,news[j]?=some u→w.cell? ((⟨g,0,none⟩:Addr).add j)=some u) (h1:∀u∈news,u.oneCell'=true) (h63:n+1≤maxLen) (hbytes:(n+1)*56≤140737488355328) (hbase:base≤w.heap.size)
  (h:∀A c w',w'.ownsRow base 51 4 (.slice A (n+1) c) (n+1) (xs++news)→w.grownBy w' v.ownBlock→((Value.slice A (n+1) c).ownBlock=v.ownBlock∨(Value.slice A (n+1) c).ownBlock=some w.heap.size)→K (a.put o.dst (.slice A (n+1) c)) w')
  (hgd:o.guard=none:=by rfl) (ho:o.op=.call { callee:=.builtin .append,args:=#[s,x],argTypes:=#[27,27] }:=by rfl) (hs:a.eval s=v:=by rfl) (hx:a.eval x=.slice (some ⟨g,0,none⟩) 1 1:=by rfl) (hl:news.length=1*4:=by rfl) :
  if Region.wanted o (yielded ops a.tmps)=true then Oper.wp Tryz.prog o a w K Q else E:=by
 obtain ⟨i0,hi,hz0,hz1,hz2⟩:=info_parts termInfo
 refine step_append_own_at w hgd s x 27 ho base 51 i0 (.agg #[.int .i64 0,S [],.int .i64 0,.slice none 0 0]) 4 56 Tryz.underlying27 hi hz0 hz1 hz2 rfl (by decide) v n xs hs hown ⟨g,0,none⟩ 1 1 news hx hl hnews h1 h63 hbytes hbase ?_
 intro v' w' h2 h3 h4
 obtain ⟨A,c,rfl⟩:=oform h2
 exact h A c w' h2 h3 h4
end Go.Proofs.YtadjpadieljjlaaGreat
