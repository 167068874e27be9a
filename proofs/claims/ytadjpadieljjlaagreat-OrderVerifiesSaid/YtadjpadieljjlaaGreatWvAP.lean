/- Parts of the proof that no input makes the law false: SmSpoil, SmPair, SmPair2. -/
import Derived.Test.YtadjpadieljjlaaGreatWvAO
set_option linter.unusedVariables false
set_option linter.unusedSimpArgs false
set_option maxRecDepth 100000
set_option maxHeartbeats 32000000
namespace Go.Proofs.YtadjpadieljjlaaGreat
open Go.RowKit Go.Maps Go.WideMaps _root_.Lfc
theorem alloc_oldS(w:World)(o:Obj)(k:Nat)(x:Obj)(h:w.heap[k]?=some x):(w.alloc o).heap[k]?=some x:=(zA _ _ _ (zL h)).trans h
theorem s_eq2{a b:Nat}(h:a=b):a≤b∧b≤a:=⟨Nat.le_of_eq h,Nat.le_of_eq h.symm⟩
theorem s_own_nil(w:World)(base:Nat)(e:TypeId)(size:Nat):w.ownsRow base e size (.slice none 0 0) 0 []:=⟨by simp,.inl ⟨rfl,rfl⟩⟩
theorem s_set1{W:World}{r:Nat}{v0 v1 v2 v3 v:Value}{t:TypeId}(h:W.heap[r]?=some (.cells #[v0,v1,v2,v3] t (0,0))):(W.setCell ⟨r,1,none⟩ v).heap[r]?=some (.cells #[v0,v,v2,v3] t (0,0)):=by
 simp[World.setCell,zM,h]
theorem TreesP.pre{q:Nat→Prop}{w:World}{b:Nat}{us:List Raw}:∀{ts:List Raw}{o:Nat},TreesP q w b (ts++us) o→TreesP q w b ts o
 |[],_,_=>by rw[TreesP];trivial
 |a :: r,o,h=>by
  rw[List.cons_append,TreesP] at h;rw[TreesP];exact⟨h.1,TreesP.pre h.2⟩
theorem TreesAtP.preS{q:Nat→Prop}{w:World}{A:Option Addr}{ts us:List Raw}(h:TreesAtP q w A (ts++us)):TreesAtP q w A ts:=fun hne=>by
 obtain⟨b,o,hA,hlt,hqb,hts⟩:=h (by intro e;exact hne (List.append_eq_nil_iff.1 e).1);exact⟨b,o,hA,hlt,hqb,hts.pre⟩
def spIdx:List Int:=[-1,1,1048576,1048577,2048,0]
theorem spIdx_cell(w:World)(r:Nat)(hr:r<6):(w.alloc (.cells #[.int .i64 (-1),.int .i64 1,.int .i64 1048576,.int .i64 1048577,.int .i64 2048,.int .i64 0] 3)).cell? ⟨w.heap.size,r,none⟩=some (.int .i64 (spIdx.getD r 0)):=by
 have q:=zW w (.cells #[.int .i64 (-1),.int .i64 1,.int .i64 1048576,.int .i64 1048577,.int .i64 2048,.int .i64 0] 3)
 match r,hr with
 |0,_=>exact zC q 0
 |1,_=>exact zC q 1
 |2,_=>exact zC q 2
 |3,_=>exact zC q 3
 |4,_=>exact zC q 4
 |5,_=>exact zC q 5
def spNm:List (List UInt8):=[[],[95],[122],[116,121,112,101],[64,99],[97,32,98],[45,62]]
theorem spNm_cell(w:World)(r:Nat)(hr:r<7):(w.alloc (.cells #[.string ⟨#[]⟩,.string ⟨#[95]⟩,.string ⟨#[122]⟩,.string ⟨#[116,121,112,101]⟩,.string ⟨#[64,99]⟩,.string ⟨#[97,32,98]⟩,.string ⟨#[45,62]⟩] 9)).cell? ⟨w.heap.size,r,none⟩=some (S (spNm.getD r []))∧(spNm.getD r []).length≤10:=by
 have q:=zW w (.cells #[.string ⟨#[]⟩,.string ⟨#[95]⟩,.string ⟨#[122]⟩,.string ⟨#[116,121,112,101]⟩,.string ⟨#[64,99]⟩,.string ⟨#[97,32,98]⟩,.string ⟨#[45,62]⟩] 9)
 match r,hr with
 |0,_=>exact⟨zC q 0,by decide⟩
 |1,_=>exact⟨zC q 1,by decide⟩
 |2,_=>exact⟨zC q 2,by decide⟩
 |3,_=>exact⟨zC q 3,by decide⟩
 |4,_=>exact⟨zC q 4,by decide⟩
 |5,_=>exact⟨zC q 5,by decide⟩
 |6,_=>exact⟨zC q 6,by decide⟩
def spC:List (List UInt8):=[[122],[110,97,116],[110,111,98,111,100,121]]
theorem spC_cell(w:World)(r:Nat)(hr:r<3):(w.alloc (.cells #[.string ⟨#[122]⟩,.string ⟨#[110,97,116]⟩,.string ⟨#[110,111,98,111,100,121]⟩] 9)).cell? ⟨w.heap.size,r,none⟩=some (S (spC.getD r []))∧(spC.getD r []).length≤10:=by
 have q:=zW w (.cells #[.string ⟨#[122]⟩,.string ⟨#[110,97,116]⟩,.string ⟨#[110,111,98,111,100,121]⟩] 9)
 match r,hr with
 |0,_=>exact⟨zC q 0,by decide⟩
 |1,_=>exact⟨zC q 1,by decide⟩
 |2,_=>exact⟨zC q 2,by decide⟩
theorem TreeP.oneS{q:Nat→Prop}{w:World}:∀{t:Raw}{v0 v1 v2 v3:Value},TreeP q w t v0 v1 v2 v3→v0.oneCell'=true∧v1.oneCell'=true∧v2.oneCell'=true∧v3.oneCell'=true
 |.node k n p ts,v0,v1,v2,v3,h=>by
  rw[TreeP] at h;obtain⟨rfl,rfl,_,rfl,A,c,rfl,_⟩:=h;exact⟨rfl,rfl,rfl,rfl⟩
theorem RowP.onesS{q:Nat→Prop}{w:World}:∀{ts:List Raw}{xs:List Value},RowP q w ts xs→∀u∈xs,u.oneCell'=true
 |[],xs,h=>by rw[RowP] at h;subst h;intro u hu;cases hu
 |t :: r,xs,h=>by
  rw[RowP] at h;obtain⟨v0,v1,v2,v3,ys,rfl,ht,hr⟩:=h;have h1:=ht.oneS;intro u hu;simp only[List.mem_cons] at hu;rcases hu with rfl | rfl | rfl | rfl | hu
  ·exact h1.1
  ·exact h1.2.1
  ·exact h1.2.2.1
  ·exact h1.2.2.2
  exact hr.onesS u hu
theorem s_cellsAdd{w:World}{b o:Nat}{xs:List Value}(h:CellsAt w b o xs):∀j u,xs[j]?=some u→w.cell? ((⟨b,o,none⟩:Addr).add j)=some u:=fun j u hj=>by
 rw[Go.WideShapes.add_plain];exact h j u hj
def SCopyAt(w wa:World)(q:Nat→Prop)(k p:Int)(n:List UInt8)(ts:List Raw)(O:Nat)(A:Option Addr)(c:Nat)(xs:List Value)(wx:World):Prop :=
 w.heap.size+2≤O∧Hid (wx.heap[O]?=some (.cells #[.int .i64 k,S n,.int .i64 p,.slice A ts.length c] 51 (0,0)))∧Hid (wx.ownsRow (w.heap.size+2) 51 4 (.slice A ts.length c) ts.length xs∧(Value.slice A ts.length c).ownBlock≠some O)∧Hid (RowP (fun b=>q b∧b<w.heap.size) wx ts xs)∧Hid (Below wa.heap.size wa wx)
theorem s_copyA{w wa w2:World}{q:Nat→Prop}{ts:List Raw}{xs:List Value}{A:Option Addr}{c:Nat}(k p:Int)(n:List UInt8)(hh:w.heap.size+2≤wa.heap.size)(hrow:RowP (fun b=>q b∧b<w.heap.size) wa ts xs)(hown:w2.ownsRow (w.heap.size+2) 51 4 (.slice A ts.length c) ts.length xs)(hg:wa.drew.grownBy w2 (Value.slice none 0 0).ownBlock) :
  SCopyAt w wa q k p n ts w2.heap.size A c xs (w2.alloc (.cells #[.int .i64 k,S n,.int .i64 p,.slice A ts.length c] 51)):=by
 have hs:wa.heap.size≤w2.heap.size:=hg.size;have hk:∀b,b<wa.heap.size→(w2.alloc (.cells #[.int .i64 k,S n,.int .i64 p,.slice A ts.length c] 51)).heap[b]?=wa.heap[b]?:=fun b hb=>by
  rw[zA _ _ _ (by omega)];exact hg.block b hb (by simp[Value.ownBlock])
 refine⟨by omega,zH (zW _ _),zH ⟨hown.alloc _,fun e=>by have:=(hown.lt _ e).2;omega⟩,zH (hrow.keep (fun b _ hlt=>hk b hlt) (by simp;omega) (fun b _ hb=>hb)),zH ⟨hg.os,hg.tape,hg.output,by simp;omega,hk⟩⟩
theorem s_copyB{w wa w2:World}{q:Nat→Prop}{ts:List Raw}{xs:List Value}{A:Option Addr}{c:Nat}(k p:Int)(n:List UInt8)(hh:w.heap.size+2≤wa.heap.size)(hrow:RowP (fun b=>q b∧b<w.heap.size) wa ts xs)(hown:w2.ownsRow (w.heap.size+2) 51 4 (.slice A ts.length c) ts.length xs)
  (hg:(wa.alloc (.cells #[.int .i64 0,S [],.int .i64 0,.slice none 0 0] 51)).drew.grownBy w2 (Value.slice none 0 0).ownBlock) (hloc:(Value.slice A ts.length c).ownBlock=(Value.slice none 0 0).ownBlock∨(Value.slice A ts.length c).ownBlock=some (wa.alloc (.cells #[.int .i64 0,S [],.int .i64 0,.slice none 0 0] 51)).drew.heap.size) :
  ∃s1 s2 s3 s4,w2.setCell ⟨wa.heap.size,0,none⟩ (.int .i64 k)=s1∧s1.setCell ⟨wa.heap.size,1,none⟩ (S n)=s2∧s2.setCell ⟨wa.heap.size,2,none⟩ (.int .i64 p)=s3∧s3.setCell ⟨wa.heap.size,3,none⟩ (.slice A ts.length c)=s4 ∧
  (w2.cell? ⟨wa.heap.size,0,none⟩=some (.int .i64 0)∧s1.cell? ⟨wa.heap.size,1,none⟩=some (S [])∧s2.cell? ⟨wa.heap.size,2,none⟩=some (.int .i64 0)∧s3.cell? ⟨wa.heap.size,3,none⟩=some (.slice none 0 0)) ∧
  (w2.frozen? ⟨wa.heap.size,0,none⟩=false∧s1.frozen? ⟨wa.heap.size,1,none⟩=false∧s2.frozen? ⟨wa.heap.size,2,none⟩=false∧s3.frozen? ⟨wa.heap.size,3,none⟩=false)∧SCopyAt w wa q k p n ts wa.heap.size A c xs s4:=by
 have hs:wa.heap.size+1≤w2.heap.size:=by have:=hg.size;simpa using this
 have hz:w2.heap[wa.heap.size]?=some (.cells #[.int .i64 0,S [],.int .i64 0,.slice none 0 0] 51 (0,0)):=(hg.block _ (by simp) (by simp[Value.ownBlock])).trans (zW wa _);obtain⟨s1,s2,s3,s4,h1,h2,h3,h4,hc,hf,hq,ho⟩:=put4 hz (.int .i64 k) (S n) (.int .i64 p) (.slice A ts.length c);refine⟨s1,s2,s3,s4,h1,h2,h3,h4,hc,hf,?_⟩;have hk:∀b,b<wa.heap.size→s4.heap[b]?=wa.heap[b]?:=fun b hb=>by
  rw[ho.block b (by omega) (fun e=>by have:=zO e;omega),hg.block b (by simp;omega) (by simp[Value.ownBlock])];exact zA wa _ b hb
 have hne:(Value.slice A ts.length c).ownBlock≠some wa.heap.size:=fun e=>by
  rcases hloc with h | h
  ·rw[e] at h;simp[Value.ownBlock] at h
  rw[e] at h;have:=zO h;simp at this
 refine⟨hh,zH hq,zH ⟨hown.kept ho (Or.inr hne),hne⟩,zH (hrow.keep (fun b _ hlt=>hk b hlt) (by have:=ho.size;omega) (fun b _ hb=>hb)),zH ⟨ho.os.trans hg.os,ho.tape.trans hg.tape,ho.output.trans hg.output,by have:=ho.size;omega,hk⟩⟩
theorem RowP.getS{q:Nat→Prop}{w:World}:∀{ts:List Raw}{xs:List Value}(i:Nat)(h:i<ts.length),RowP q w ts xs→∃v0 v1 v2 v3,xs[i*4]?=some v0∧xs[i*4+1]?=some v1∧xs[i*4+2]?=some v2∧xs[i*4+3]?=some v3∧TreeP q w ts[i] v0 v1 v2 v3
 |[],_,_,h,_=>by simp at h
 |t :: r,xs,i,h,hr=>by
  rw[RowP] at hr;obtain⟨v0,v1,v2,v3,ys,rfl,ht,hr⟩:=hr
  match i with
  |0=>exact⟨v0,v1,v2,v3,rfl,rfl,rfl,rfl,ht⟩
  |i+1 =>
   obtain⟨u0,u1,u2,u3,h0,h1,h2,h3,hu⟩:=RowP.getS i (by simpa using h) hr;refine⟨u0,u1,u2,u3,?_,?_,?_,?_,hu⟩
   ·rw[show(i+1)*4=i*4+1+1+1+1 by omega];simpa using h0
   ·rw[show(i+1)*4+1=i*4+1+1+1+1+1 by omega];simpa using h1
   ·rw[show(i+1)*4+2=i*4+2+1+1+1+1 by omega];simpa using h2
   rw[show(i+1)*4+3=i*4+3+1+1+1+1 by omega];simpa using h3
theorem s_sizes_set(t:Raw):∀(ts:List Raw)(i:Nat)(h:i<ts.length),Raw.sizes (ts.set i t)+ts[i].size=Raw.sizes ts+t.size
 |[],_,h=>by simp at h
 |a :: r,0,_=>by simp only[List.set_cons_zero,Raw.sizes,List.getElem_cons_zero];omega
 |a :: r,i+1,h=>by
  have:=s_sizes_set t r i (by simpa using h);simp only[List.set_cons_succ,Raw.sizes,List.getElem_cons_succ];omega
theorem s_put4row{W:World}{g i:Nat}{xs:List Value}{cur:Array Value}{t:TypeId}(h:W.heap[g]?=some (.cells cur t (0,0)))(hc:CellsAt W g 0 xs)(hi:i*4+3<xs.length)(v0 v1 v2 v3:Value):∃s1 s2 s3 s4 a0 a1 a2 a3,W.setCell ⟨g,i*4,none⟩ v0=s1∧s1.setCell ⟨g,i*4+1,none⟩ v1=s2∧s2.setCell ⟨g,i*4+2,none⟩ v2=s3∧s3.setCell ⟨g,i*4+3,none⟩ v3=s4 ∧
  (W.cell? ⟨g,i*4,none⟩=some a0∧s1.cell? ⟨g,i*4+1,none⟩=some a1∧s2.cell? ⟨g,i*4+2,none⟩=some a2∧s3.cell? ⟨g,i*4+3,none⟩=some a3) ∧
  (W.frozen? ⟨g,i*4,none⟩=false∧s1.frozen? ⟨g,i*4+1,none⟩=false∧s2.frozen? ⟨g,i*4+2,none⟩=false∧s3.frozen? ⟨g,i*4+3,none⟩=false) ∧
  CellsAt s4 g 0 ((((xs.set (i*4) v0).set (i*4+1) v1).set (i*4+2) v2).set (i*4+3) v3)∧Oth g W s4:=by
 have fz:∀(j k:Nat)(V:World)(v:Value)(c:Array Value),V.heap[g]?=some (.cells c t (0,0))→(V.setCell ⟨g,j,none⟩ v).heap[g]?=some (.cells (c.set! j v) t (0,0)):=fun j k V v c hV=>by simp[World.setCell,zM,hV]
 have c1:=hc.set (j0:=i*4) v0;have c2:=c1.set (j0:=i*4+1) v1;have c3:=c2.set (j0:=i*4+2) v2;have c4:=c3.set (j0:=i*4+3) v3;simp only[Nat.zero_add] at c1 c2 c3 c4;have h1:=fz (i*4) 0 W v0 _ h;have h2:=fz (i*4+1) 0 _ v1 _ h1;have h3:=fz (i*4+2) 0 _ v2 _ h2;have e0:=hc (i*4) _ (Zg (by omega));have e1:=c1 (i*4+1) _ (Zg (by simp;omega));have e2:=c2 (i*4+2) _ (Zg (by simp;omega));have e3:=c3 (i*4+3) _ (Zg (by simp;omega));rw[Nat.zero_add] at e0 e1 e2 e3;exact⟨_,_,_,_,_,_,_,_,rfl,rfl,rfl,rfl,⟨e0,e1,e2,e3⟩,⟨zF h _,zF h1 _,zF h2 _,zF h3 _⟩,c4,(((Oth.set W v0).trans (Oth.set _ v1)).trans (Oth.set _ v2)).trans (Oth.set _ v3)⟩
theorem s_spoil_row{w wc w5 s4:World}{q:Nat→Prop}{g i:Nat}{ts:List Raw}{xs:List Value}{t5:Raw}{v0 v1 v2 v3:Value}(hi:i<ts.length)(hg:w.heap.size+2≤g)(hgc:g<wc.heap.size)(hrow:RowP (fun b=>q b∧b<w.heap.size) wc ts xs)
  (b5:Below wc.drew.heap.size wc.drew w5) (hp5:TreeP (fun b=>(q b∧b<w.heap.size)∨wc.drew.heap.size≤b) w5 t5 v0 v1 v2 v3) (ho:Oth g w5 s4) (hc:CellsAt s4 g 0 ((((xs.set (i*4) v0).set (i*4+1) v1).set (i*4+2) v2).set (i*4+3) v3)) :
  TreesAtP (fun b=>(q b∧b<w.heap.size)∨w.heap.size+2≤b) s4 (some ⟨g,0,none⟩) (ts.set i t5):=by
 have s5:wc.heap.size≤w5.heap.size:=b5.size;have hs:=ho.size;have k1:TreeP (fun b=>(q b∧b<w.heap.size)∨w.heap.size+2≤b) s4 t5 v0 v1 v2 v3:=by
  refine TreeP.keep (fun b hb hlt=>ho.block b hlt (fun e=>?_)) hs (fun b _ hb=>?_) _ _ _ _ _ hp5
  ·have:=zO e;rcases hb with hb | hb
   ·omega
   have hb:wc.heap.size≤b:=hb;omega
  rcases hb with hb | hb
  ·exact .inl hb
  have hb:wc.heap.size≤b:=hb;exact .inr (by omega)
 have k2:RowP (fun b=>(q b∧b<w.heap.size)∨w.heap.size+2≤b) s4 ts xs:=by
  refine RowP.keep (fun b hb hlt=>?_) (by omega) (fun b _ hb=>.inl hb) hrow;have h2:b<w.heap.size:=hb.2;exact(ho.block b (by omega) (fun e=>by have:=zO e;omega)).trans (b5.block b hlt)
 exact fun _=>⟨g,0,rfl,by omega,.inr hg,(RowP.set k1 i hi k2).lie hc⟩
theorem TreeP.nameS{q:Nat→Prop}{w:World}{k p:Int}{n:List UInt8}{ts:List Raw}{v0 v1 v2 v3:Value}(h:TreeP q w (.node k n p ts) v0 v1 v2 v3):n.length≤1000000:=by rw[TreeP] at h;exact h.2.2.1
theorem s_own_le{w:World}{base e size n c:Nat}{A:Option Addr}{xs:List Value}(h:w.ownsRow base e size (.slice A n c) n xs):n≤c:=by
 rcases h.2 with⟨_,h2⟩ | ⟨g,cap,cur,hv,_,_,hnc,_⟩
 ·omega
 injection hv with _ _ e3;omega
def SSpoilEnd(w wa:World)(q:Nat→Prop)(O:Nat)(sz:Nat)(wx:World):Prop:=∃(k':Int)(n':List UInt8)(p':Int)(ts':List Raw)(A'':Option Addr)(c'':Nat),Hid (wx.heap[O]?=some (.cells #[.int .i64 k',S n',.int .i64 p',.slice A'' ts'.length c''] 51 (0,0)))∧Hid (TreesAtP (fun b=>(q b∧b<w.heap.size)∨w.heap.size+2≤b) wx A'' ts')∧Hid (Below (w.heap.size+2) wa wx)∧Hid (n'.length≤1000000∧ts'.length≤c''∧Raw.sizes ts'≤sz)
theorem s_copy_trees{w W:World}{q:Nat→Prop}{O:Nat}{A:Option Addr}{c:Nat}{ts:List Raw}{xs:List Value}(hown:W.ownsRow (w.heap.size+2) 51 4 (.slice A ts.length c) ts.length xs)(hne:(Value.slice A ts.length c).ownBlock≠some O)(hrow:RowP (fun b=>q b∧b<w.heap.size) W ts xs) :
  TreesAtP (fun b=>(q b∧b<w.heap.size)∨(w.heap.size+2≤b∧b≠O)) W A ts:=by
 rcases hown.2 with⟨h1,h2⟩ | ⟨g,cap,cur,hv,hbg,hg,hnc,_,_,_⟩
 ·exact fun hne=>absurd (Zz h2) hne
 injection hv with e1 _ e3;subst e1 e3;refine fun _=>⟨g,0,rfl,zL hg,.inr ⟨hbg,fun e=>hne (by rw[e];rfl)⟩,?_⟩;exact(RowP.keep (fun _ _ _=>rfl) (zN _) (fun b _ hb=>.inl hb) hrow).lie (own_cells hown)
theorem TreesAtP.setS{w W:World}{q:Nat→Prop}{O:Nat}{A:Option Addr}{ts:List Raw}(h:TreesAtP (fun b=>(q b∧b<w.heap.size)∨(w.heap.size+2≤b∧b≠O)) W A ts)(j:Nat)(v:Value)(hO:w.heap.size+2≤O:=by omega):TreesAtP (fun b=>(q b∧b<w.heap.size)∨w.heap.size+2≤b) (W.setCell ⟨O,j,none⟩ v) A ts:=by
 refine h.keep (fun b hb _=>Below.heap_setCell _ _ _ _ ?_) (by simp[World.setCell]) (fun b _ hb=>?_)
 ·show b≠O;rcases hb with hb | hb <;> omega
 rcases hb with hb | hb
 ·exact .inl hb
 exact .inr hb.1
theorem s_set0{W:World}{r:Nat}{v0 v1 v2 v3 v:Value}{t:TypeId}(h:W.heap[r]?=some (.cells #[v0,v1,v2,v3] t (0,0))):(W.setCell ⟨r,0,none⟩ v).heap[r]?=some (.cells #[v,v1,v2,v3] t (0,0)):=by
 simp[World.setCell,zM,h]
theorem s_set2{W:World}{r:Nat}{v0 v1 v2 v3 v:Value}{t:TypeId}(h:W.heap[r]?=some (.cells #[v0,v1,v2,v3] t (0,0))):(W.setCell ⟨r,2,none⟩ v).heap[r]?=some (.cells #[v0,v1,v,v3] t (0,0)):=by
 simp[World.setCell,zM,h]
theorem s_hole_final{w wa wc w10:World}{q:Nat→Prop}{O:Nat}{A A10:Option Addr}{c c10:Nat}{ts:List Raw}{xs:List Value}{v0 v1 v2:Value}(hO:w.heap.size+2≤O)(HB:Below wa.heap.size wa wc)(hwa:w.heap.size+2≤wa.heap.size)(hOs:O<wc.heap.size)(hR:wc.heap[O]?=some (.cells #[v0,v1,v2,.slice A ts.length c] 51 (0,0)))(hown:wc.ownsRow (w.heap.size+2) 51 4 (.slice A ts.length c) ts.length xs)(hne:(Value.slice A ts.length c).ownBlock≠some O)(hrow:RowP (fun b=>q b∧b<w.heap.size) wc ts xs)
  (hown':w10.ownsRow (w.heap.size+2) 51 4 (.slice A10 (ts.length+1) c10) (ts.length+1) (xs++[.int .i64 4,S [122],.int .i64 0,.slice none 0 0])) (hg:(wc.alloc (.cells #[.int .i64 4,S [122],.int .i64 0,.slice none 0 0] 51)).grownBy w10 (Value.slice A ts.length c).ownBlock) (hloc:(Value.slice A10 (ts.length+1) c10).ownBlock=(Value.slice A ts.length c).ownBlock∨(Value.slice A10 (ts.length+1) c10).ownBlock=some (wc.heap.size+1)) :
  w10.heap[O]?=some (.cells #[v0,v1,v2,.slice A ts.length c] 51 (0,0))∧TreesAtP (fun b=>(q b∧b<w.heap.size)∨(w.heap.size+2≤b∧b≠O)) w10 A10 (ts++[.node 4 [122] 0 []])∧Below (w.heap.size+2) wa w10:=by
 have s10:wc.heap.size+1≤w10.heap.size:=by have:=hg.size;simpa using this
 have hk:∀b,b<w.heap.size+2→b<wc.heap.size→w10.heap[b]?=wc.heap[b]?:=fun b hb hlt=>by
  rw[hg.block b (by simp;omega) (fun e=>by have:=(hown.lt b e.symm).1;omega)];exact zA wc _ b hlt
 have hbz:=HB.size;refine⟨?_,?_,⟨hg.os.trans HB.os,hg.tape.trans HB.tape,hg.output.trans HB.output,by omega,fun b hb=>(hk b hb (by omega)).trans (HB.block b (by omega))⟩⟩
 ·rw[hg.block O (by simp;omega) (fun e=>hne e.symm)];exact(zA wc _ O hOs).trans hR
 have hne':(Value.slice A10 (ts.length+1) c10).ownBlock≠some O:=fun e=>by
  rcases hloc with h | h
  ·exact hne (h.symm.trans e)
  have:=zO (h.symm.trans e);omega
 have hrow':RowP (fun b=>q b∧b<w.heap.size) w10 ts xs:=by
  refine RowP.keep (fun b hb hlt=>?_) (by omega) (fun b _ hb=>hb) hrow;have h2:b<w.heap.size:=hb.2;exact hk b (by omega) hlt
 have hh:TreeP (fun b=>q b∧b<w.heap.size) w10 (.node 4 [122] 0 []) (.int .i64 4) (S [122]) (.int .i64 0) (.slice none 0 0):=by
  rw[TreeP];exact⟨rfl,rfl,by simp,rfl,none,0,rfl,zN _,fun h=>absurd rfl h⟩
 have hr2:=RowP.append (RowP.one hh) hrow';refine s_copy_trees (c:=c10) (ts:=ts++[.node 4 [122] 0 []]) ?_ ?_ hr2
 ·rw[Zq];exact hown'
 rw[Zq];exact hne'
theorem TreesAtP.drewS{q:Nat→Prop}{w:World}{A:Option Addr}{ts:List Raw}(h:TreesAtP q w A ts):TreesAtP q w.drew A ts :=
 TreesAtP.keep (w:=w) (w':=w.drew) (fun _ _ _=>rfl) (zN w.heap.size) (fun _ _ h=>h) h
def SSpoilUpto(m:Nat):Prop:=∀(t:Raw)(v:Value)(w:World)(q:Nat→Prop)(x y:Int),t.size≤m→TreeVP q w t v →
  Calls Tryz.prog 39 #[v,.int .i64 x,.int .i64 y] w fun e w'=>(∃t' v',e=.returned v'∧TreeVP (fun b=>q b∨w.heap.size≤b) w' t' v'∧t'.size≤t.size+1)∧Below w.heap.size w w'
theorem s_spoil_step(m:Nat)(hm:m<=2000)(ih:SSpoilUpto m):SSpoilUpto (m+1):=by
 intro t v w q x y hsz hv;obtain⟨k,n,p,ts⟩:=t;obtain⟨A,c,rfl,hp⟩:=hv.openT;obtain⟨wa,hwa⟩:∃wa,(w.alloc (.cells (zT k n p A ts c) 51)).alloc (.cells #[zI 0,S [],zI 0,zS] 51)=wa:=⟨_,rfl⟩;have qx:zk wa w.heap.size (zT k n p A ts c) 51:=by rw[<-hwa];exact alloc_oldS _ _ _ _ (zW _ _)
 have qr:wa.heap[w.heap.size+1]?=some (.cells #[zI 0,S [],zI 0,zS] 51 (0,0)):=by
  rw[<-hwa];have:=zW (w.alloc (.cells (zT k n p A ts c) 51)) (.cells #[zI 0,S [],zI 0,zS] 51);simpa using this
 have ba:zb w wa:=by rw[<-hwa];exact((zB _ _).alloc (zN _) _).alloc (by simp) _
 have hsa:=s_eq2 (show wa.heap.size=w.heap.size+2 by rw[<-hwa];simp);have HQX:=zH qx;have HQR:=zH qr;have BA:=zH ba;have HPT:=zH hp;have IH:=zH ih;obtain⟨i0,hi,hz0,hz1,hz2⟩:=term_infoM;have hlen:=Raw.sizes_len ts;simp only[Raw.size] at hsz;clear qx qr ba hp ih hv;go_enter Tryz.func39,Tryz.ntmps39;go_upto_region 1 with fail;clear hwa;go_cut [7] (fun s7 wx=>∃(O:Nat)(A':Option Addr)(c':Nat)(xs:List Value),s7=.pointer (some ⟨O,0,none⟩)/\Hid (SCopyAt w wa q k p n ts O A' c' xs wx));case first =>
  obtain⟨y0,y1,y2,y3⟩:=cells4t HQX.o;have z0:=fun o=>(cells4t (alloc_oldS wa o _ _ HQX.o)).1;have z1:=fun o=>(cells4t (alloc_oldS wa o _ _ HQX.o)).2.1;have z2:=fun o=>(cells4t (alloc_oldS wa o _ _ HQX.o)).2.2.1;have z3:=fun o=>(cells4t (alloc_oldS wa o _ _ HQX.o)).2.2.2;by_cases hts:ts=[]
  ·subst hts;simp only[List.length_nil] at *;have hnw:zb wa (wa.alloc (.cells #[zI k,S n,zI p,zS] 51)).drew:=((zB _ _).alloc (zN _) _).drew;rcases A with _ | A
   ·go_region_held3 (fun w'=>w'.cell? ⟨w.heap.size,0,none⟩=some (zI k)/\w'.cell? ⟨w.heap.size,1,none⟩=some (S n)/\w'.cell? ⟨w.heap.size,2,none⟩=some (zI p)/\w'.cell? ⟨w.heap.size,3,none⟩=some (.slice none 0 c))
     (first | exact cells4t HQX.o | exact cells4t (alloc_oldS _ _ _ _ HQX.o))
     (fail)
    all_goals
     go_wp2_with fail;go_meet;exact⟨wa.heap.size,none,0,[],rfl,zH ⟨hsa.2,zH (zW wa _),zH ⟨s_own_nil _ _ _ _,by simp[Value.ownBlock]⟩,zH rfl,zH hnw⟩⟩
   go_region_held3 (fun w'=>w'.cell? ⟨w.heap.size,0,none⟩=some (zI k)/\w'.cell? ⟨w.heap.size,1,none⟩=some (S n)/\w'.cell? ⟨w.heap.size,2,none⟩=some (zI p)/\w'.cell? ⟨w.heap.size,3,none⟩=some (.slice (some A) 0 c))
    (first | exact cells4t HQX.o | exact cells4t (alloc_oldS _ _ _ _ HQX.o))
    (fail)
   all_goals
    go_wp2_with fail;go_meet;exact⟨wa.heap.size,none,0,[],rfl,zH ⟨hsa.2,zH (zW wa _),zH ⟨s_own_nil _ _ _ _,by simp[Value.ownBlock]⟩,zH rfl,zH hnw⟩⟩
  have htne:0<ts.length:=List.length_pos_iff.2 hts;have hp:=HPT.o;rw[TreeP] at hp;obtain⟨_,_,_,_,A',c',hA',hc',hts'⟩:=hp;cases hA';obtain⟨b,o,rfl,hb,hqb,hT⟩:=hts' hts;obtain⟨xs,hrow,hcells⟩:=hT.row;have hxl:=hrow.len;have hca:CellsAt wa b o xs:=fun j u hj=>(BA.o.cell (p:=⟨b,o+j,none⟩) hb).trans (hcells j u hj);have hcb:∀O,CellsAt (wa.alloc O) b o xs:=fun O j u hj=>(World.cell?_of_block (zA wa O b (by omega))).trans (hca j u hj);have hone:=hrow.onesS;have HROW:Hid (RowP (fun b=>q b/\b<w.heap.size) wa ts xs):=zH (hrow.keep (fun b _ hlt=>BA.o.block b hlt) (by omega) (fun b hlt hb=>⟨hb,hlt⟩));have hlm:0+ts.length<=maxLen:=by unfold maxLen;omega
  have hl56:(0+ts.length)*56<=140737488355328:=by omega
  have hx4:xs.length=ts.length*4:=by omega
  clear hxl hcells hT hts' hrow hts;go_region_held3 (fun w'=>w'.cell? ⟨w.heap.size,0,none⟩=some (zI k)/\w'.cell? ⟨w.heap.size,1,none⟩=some (S n)/\w'.cell? ⟨w.heap.size,2,none⟩=some (zI p)/\w'.cell? ⟨w.heap.size,3,none⟩=some (.slice (some ⟨b,o,none⟩) ts.length c))
   (first | exact cells4t HQX.o | exact cells4t (alloc_oldS _ _ _ _ HQX.o) | exact cells4t hX2 | exact cells4t (alloc_oldS _ _ _ _ hX2) | exact cells4t hX4)
   (first
   |(refine step_append_own_at _ (by rfl) _ _ 27 (by rfl) (w.heap.size+2) 51 i0 (.agg #[zI 0,S [],zI 0,zS]) 4 56 Tryz.underlying27 hi hz0 hz1 hz2 rfl (by decide) _ _ _ (by rfl) (s_own_nil wa.drew _ _ _) ⟨b,o,none⟩ ts.length c xs (by rfl) hx4 (s_cellsAdd hca) hone hlm hl56 hsa.2 ?_;intro v' w2 hown2 hg2 hloc2;rw[Nat.zero_add] at hown2;obtain⟨A2,c2,rfl⟩:=oform hown2;have hX2:=(hg2.block _ (zL HQX.o) (by simp[Value.ownBlock])).trans HQX.o;have hfin:=zH (s_copyA k p n hsa.2 HROW.o hown2 hg2))
   |(refine step_append_own_at _ (by rfl) _ _ 27 (by rfl) (w.heap.size+2) 51 i0 (.agg #[zI 0,S [],zI 0,zS]) 4 56 Tryz.underlying27 hi hz0 hz1 hz2 rfl (by decide) _ _ _ (by rfl) (s_own_nil (wa.alloc (.cells #[zI 0,S [],zI 0,zS] 51)).drew _ _ _) ⟨b,o,none⟩ ts.length c xs (by rfl) hx4 (s_cellsAdd (hcb _)) hone hlm hl56 (oalloc_le hsa.2) ?_;intro v' w2 hown2 hg2 hloc2;rw[Nat.zero_add] at hown2;obtain⟨A2,c2,rfl⟩:=oform hown2;obtain⟨s1,s2,s3,s4,h1,h2,h3,h4,⟨m0,m1,m2,m3⟩,⟨f0,f1,f2,f3⟩,hfin'⟩:=s_copyB k p n hsa.2 HROW.o hown2 hg2 hloc2;have hX2:=(hg2.block _ (by simp;omega) (by simp[Value.ownBlock])).trans (alloc_oldS wa _ _ _ HQX.o);have hX4:=(hfin'.2.2.2.2.o.block _ (zL HQX.o)).trans HQX.o;have hfin:=zH hfin';clear hfin'))
  all_goals
   go_wp2_with fail;go_meet;exact⟨_,A2,c2,xs,rfl,hfin⟩
 rename_i wz;obtain⟨O,A',c',xs,rfl,HC⟩:=hcut;have hO:=HC.o.1;have HR0:=HC.o.2.1;obtain⟨x0,x1,x2,x3⟩:=cells4t HR0.o;go_upto_region 2 with fail;go_cut [27] (fun s27 wx=>∃bb:Bool,s27=.bool bb/\(bb=true->0<ts.length)/\wx=wc);case first =>
  by_cases hne:0<ts.length
  ·have hd1:decide (0<ts.length)=true:=(by simpa using hne);go_wp2_with fail;refine(cutO_any x 3 _ (by omega) (by omega)).mono ?_;rintro e w2⟨rfl,rfl⟩;generalize cutO x 3=r;go_wp2_with fail;go_meet;exact⟨_,rfl,fun _=>hne,rfl⟩
  have hd1:decide (0<ts.length)=false:=by simpa using hne
  go_wp2_with fail;go_meet;exact⟨false,rfl,(fun h=>by cases h),rfl⟩
 obtain⟨bb,rfl,hbb,rfl⟩:=hcut;cases bb;case true =>
  have hne:=hbb rfl;clear hbb;go_wp2_with fail;refine(cutO_any _ ts.length _ hne (by omega)).mono ?_;rintro e w2⟨rfl,hw2⟩;obtain rfl:=hw2.symm;have hi:=cutO_lt (wrap64 (x.tdiv 3)) ts.length hne;generalize cutO (wrap64 (x.tdiv 3)) ts.length=i at *;obtain⟨hown,hneO⟩:=HC.o.2.2.1.o;have hrow:=HC.o.2.2.2.1.o;have HB:=HC.o.2.2.2.2;have hxl:=hrow.len;obtain⟨g,cap,cur,hvg,hgb,hgh⟩:∃g cap cur,A'=some ⟨g,0,none⟩/\w.heap.size+2<=g/\wc.heap[g]?=some (.cells cur 51 (0,0)):=by
   rcases hown.2 with⟨_,h2⟩ | ⟨g,cap,cur,hv,hbg,hg,_⟩
   ·omega
   injection hv with e1 _ e3;exact⟨g,cap,cur,e1,hbg,hg⟩
  subst hvg;have hcat:=own_cells hown;obtain⟨v0,v1,v2,v3,hx0,hx1,hx2,hx3,htp⟩:=hrow.getS i hi;have ht0:=htp;obtain⟨k1,n1,p1,us,hnode⟩:∃k1 n1 p1 us,ts[i]=.node k1 n1 p1 us:=by cases ts[i] with | node a b c d=>exact⟨a,b,c,d,rfl⟩
  rw[hnode,TreeP] at htp;obtain⟨rfl,rfl,_,rfl,A1,c1,rfl,_⟩:=htp;have d0:=hcat _ _ hx0;have d1:=hcat _ _ hx1;have d2:=hcat _ _ hx2;have d3:=hcat _ _ hx3;simp only[Nat.zero_add] at d0 d1 d2 d3;have hneq:g≠O:=fun e=>hneO (by rw[e];rfl);have hszi:=Raw.sizes_mem ts ts[i] (Ze _);have HROW:=zH hrow;have HCAT:=zH hcat;have HGH:=zH hgh;have htv:TreeVP (fun b=>q b/\b<w.heap.size) wc.drew ts[i] (.agg (zT k1 n1 p1 A1 us c1)):=⟨_,_,_,_,rfl,TreeP.keep (w:=wc) (w':=wc.drew) (fun _ _ _=>rfl) (zN wc.heap.size) (fun _ _ h=>h) _ _ _ _ _ ht0⟩;have HIH:=zH (fun(a b:Int)=>IH.o ts[i] _ wc.drew _ a b (by omega) htv);have HSET:=zH (fun t=>s_sizes_set t ts i hi);have hi0:=zP i;have hi1:(i:Int)<(ts.length:Int):=by omega
  have hi3:i*4+3<xs.length:=by omega
  have hgs:g<wc.heap.size:=zL hgh;have hOs:O<wc.heap.size:=zL HR0.o;have HLC:Hid (ts.length<=c'):=zH (s_own_le hown);clear hown hrow hcat hgh ht0 htv hx0 hx1 hx2 hx3 hneO;go_upto_region 4 with fail;go_cut [] (fun wx=>∃t5:Raw,Hid (TreesAtP (fun b=>(q b/\b<w.heap.size)\/w.heap.size+2<=b) wx (some ⟨g,0,none⟩) (ts.set i t5))/\Hid (zk wx O #[zI k,S n,zI p,.slice (some ⟨g,0,none⟩) ts.length c'] 51)/\Hid (zb wa wx)/\Hid (t5.size<=ts[i].size+1));case first =>
   go_region_law (go_simp;go_at_call 39;refine(HIH.o _ _).mono ?_;rintro e w5⟨⟨t5,v5,rfl,hv5,hs5⟩,b5⟩;obtain⟨k5,n5,p5,us5⟩:=t5;obtain⟨A5,c5,rfl,hp5⟩:=hv5.openT;obtain⟨s1,s2,s3,s4,a0,a1,a2,a3,h1,h2,h3,h4,⟨m0,m1,m2,m3⟩,⟨f0,f1,f2,f3⟩,hc4,ho4⟩:=s_put4row ((b5.block g hgs).trans HGH.o) (fun j u hj=>(b5.cell (p:=⟨g,_,none⟩) hgs).trans (HCAT.o j u hj)) hi3 (zI k5) (S n5) (zI p5) (.slice A5 us5.length c5);have hS5:=(b5.cell (p:=⟨O,3,none⟩) hOs).trans x3);all_goals
    have HT:=zH (s_spoil_row hi hgb hgs HROW.o b5 hp5 ho4 hc4);have HR:=zH ((ho4.block O (Zl hOs b5.size) (fun e=>hneq (zO e).symm)).trans ((b5.block O hOs).trans HR0.o));have hb5:wc.heap.size<=w5.heap.size:=b5.size;have hbz:=HB.o.size;have HB4:=zH (Oth.below (B:=wa.heap.size) (HB.o.trans (((zB _ wc).drew.trans (b5.mono (zN _))).mono hbz)) ho4 (by omega) (by omega));have hs5':=zH hs5;clear hp5 hc4 ho4 hs5 hv5;go_wp2_with fail;go_meet;exact⟨_,HT,HR,HB4,hs5'⟩
  obtain⟨t5,HT,HR,HB4,hs5⟩:=hcut;obtain⟨k',n',p',ts',A'',c'',HR,HT,HB,HZ⟩:=(⟨k,n,p,ts.set i t5,some ⟨g,0,none⟩,c',by rw[List.length_set];exact HR,HT,zH (HB4.o.mono hsa.2),zH ⟨HPT.o.nameS,by rw[List.length_set];exact HLC.o,by have:=HSET.o t5;have:=hs5.o;omega⟩⟩:SSpoilEnd w wa q O (Raw.sizes ts+1) _);obtain⟨x0,x1,x2,x3⟩:=cells4t HR.o;obtain⟨s1',s2',s3',s4',h1',h2',h3',h4',⟨u0,u1,u2,u3⟩,⟨g0,g1,g2,g3⟩,hq',ho'⟩:=put4 ((HB.o.block _ (by omega)).trans HQR.o) (zI k') (S n') (zI p') (.slice A'' ts'.length c'');have HQ':=zH hq';have HO':=zH ho';clear hq' ho';go_wp2_with fail;refine Zb (results_term rfl _ _ _ _ _ _ _ rfl HQ'.o) ?_;have hs':=HO'.o.size;have hb':=HB.o.size;refine⟨⟨.node k' n' p' ts',_,rfl,TreeVP.mk HZ.o.1 HZ.o.2.1 ?_,by simp only[Raw.size];have:=HZ.o.2.2;omega⟩,?_⟩
  ·exact HT.o.keep (fun b hb hlt=>HO'.o.block b hlt (fun e=>by have:=zO e;rcases hb with hb | hb <;> omega)) hs' (fun b _ hb=>by rcases hb with hb | hb;exact .inl hb.1;exact .inr (by omega))
  exact Oth.below (BA.o.trans (HB.o.mono (by omega))) HO'.o (by omega) (by omega)
 case false =>
  clear hbb;obtain⟨hown,hneO⟩:=HC.o.2.2.1.o;have HT0:=zH (s_copy_trees hown hneO HC.o.2.2.2.1.o);have HLC:Hid (ts.length<=c'):=zH (s_own_le hown);have HB:=HC.o.2.2.2.2;have HOWN:=zH hown;have HNEO:=zH hneO;have hbz:=HB.o.size;have hOs:O<wc.heap.size:=zL HR0.o;have f0:=zF HR0.o 0;have f1:=zF HR0.o 1;have f2:=zF HR0.o 2;have f3:=zF HR0.o 3;clear hown hneO;go_wp2_with fail;refine(cutO_any y 9 _ (by omega) (by omega)).mono ?_;rintro e w2⟨rfl,hw2⟩;obtain rfl:=hw2.symm;have hr:=cutO_lt y 9 (by omega);generalize cutO y 9=r at *;go_upto_block 0 with fail;go_cut [] (fun wx=>Hid (SSpoilEnd w wa q O (Raw.sizes ts+1) wx));case first =>
   rcases(show r=0\/r=1\/r=2\/r=3\/r=4\/r=5\/r=6\/r=7\/r=8 by omega) with rfl | rfl | rfl | rfl | rfl | rfl | rfl | rfl | rfl
   ·go_wp2_with fail;refine(cutO_any _ 8 _ (by omega) (by omega)).mono ?_;rintro e w2⟨rfl,hw2⟩;obtain rfl:=hw2.symm;go_wp2_with fail;go_meet;exact zH ⟨_,n,p,ts,A',c',zH (s_set0 HR0.o),zH (HT0.o.setS _ _),zH ((HB.o.mono hsa.2).setCell (p:=⟨O,0,none⟩) (by simp only;omega) _),zH ⟨HPT.o.nameS,HLC.o,by omega⟩⟩
   ·obtain⟨wt,hwt⟩:∃wt,wc.alloc (.cells #[zI (-1),zI 1,zI 1048576,zI 1048577,zI 2048,zI 0] 3)=wt:=⟨_,rfl⟩;have HR1:Hid (zk wt O (zT k n p A' ts c') 51):=zH (by rw[<-hwt];exact alloc_oldS _ _ _ _ HR0.o);have HT1:Hid (TreesAtP (fun b=>(q b/\b<w.heap.size)\/(w.heap.size+2<=b/\b≠O)) wt A' ts):=zH (by rw[<-hwt];exact HT0.o.keep (fun b _ hlt=>zA _ _ _ hlt) (by simp) (fun b _ hb=>hb));have HB1:Hid (Below (w.heap.size+2) wa wt):=zH (by rw[<-hwt];exact(HB.o.mono hsa.2).alloc (by omega) _);have TAB:=zH (fun r hr=>by have h:=spIdx_cell wc r hr;rw[hwt] at h;exact h);obtain⟨x0,x1,x2,x3⟩:=cells4t HR1.o;have f0:=zF HR1.o 0;have f1:=zF HR1.o 1;have f2:=zF HR1.o 2;have f3:=zF HR1.o 3;go_wp2_with fail;refine(cutO_any _ 6 wt (by omega) (by omega)).mono ?_;rintro e w2⟨rfl,hw2⟩;obtain rfl:=hw2.symm;have hrr:=cutO_lt (wrap64 (y.tdiv 9)) 6 (by omega);generalize cutO (wrap64 (y.tdiv 9)) 6=rr at *;have yt:=TAB.o rr hrr;have hr0:(0:Int)<=(rr:Int):=(by omega);have hr1:(rr:Int)<6:=(by omega);generalize spIdx.getD rr 0=x at *;clear hwt;go_wp2_with fail;go_meet;exact zH ⟨k,n,_,ts,A',c',zH (s_set2 HR1.o),zH (HT1.o.setS _ _),zH (HB1.o.setCell (p:=⟨O,2,none⟩) (by simp only;omega) _),zH ⟨HPT.o.nameS,HLC.o,by omega⟩⟩
   ·obtain⟨wt,hwt⟩:∃wt,wc.alloc (.cells #[.string ⟨#[]⟩,.string ⟨#[95]⟩,.string ⟨#[122]⟩,.string ⟨#[116,121,112,101]⟩,.string ⟨#[64,99]⟩,.string ⟨#[97,32,98]⟩,.string ⟨#[45,62]⟩] 9)=wt:=⟨_,rfl⟩;have HR1:Hid (zk wt O (zT k n p A' ts c') 51):=zH (by rw[<-hwt];exact alloc_oldS _ _ _ _ HR0.o);have HT1:Hid (TreesAtP (fun b=>(q b/\b<w.heap.size)\/(w.heap.size+2<=b/\b≠O)) wt A' ts):=zH (by rw[<-hwt];exact HT0.o.keep (fun b _ hlt=>zA _ _ _ hlt) (by simp) (fun b _ hb=>hb));have HB1:Hid (Below (w.heap.size+2) wa wt):=zH (by rw[<-hwt];exact(HB.o.mono hsa.2).alloc (by omega) _);have TAB:=zH (fun r hr=>by have h:=spNm_cell wc r hr;rw[hwt] at h;exact h);obtain⟨x0,x1,x2,x3⟩:=cells4t HR1.o;have f0:=zF HR1.o 0;have f1:=zF HR1.o 1;have f2:=zF HR1.o 2;have f3:=zF HR1.o 3;go_wp2_with fail;refine(cutO_any _ 7 wt (by omega) (by omega)).mono ?_;rintro e w2⟨rfl,hw2⟩;obtain rfl:=hw2.symm;have hrr:=cutO_lt (wrap64 (y.tdiv 9)) 7 (by omega);generalize cutO (wrap64 (y.tdiv 9)) 7=rr at *;have yt:=TAB.o rr hrr;obtain⟨yt,hyl⟩:=yt;have hr0:(0:Int)<=(rr:Int):=(by omega);have hr1:(rr:Int)<7:=(by omega);generalize spNm.getD rr []=nn at *;clear hwt;have HYL:=zH hyl;clear hyl;go_wp2_with fail;go_meet;exact zH ⟨k,nn,p,ts,A',c',zH (s_set1 HR1.o),zH (HT1.o.setS _ _),zH (HB1.o.setCell (p:=⟨O,1,none⟩) (by simp only;omega) _),zH ⟨by have:=HYL.o;omega,HLC.o,by omega⟩⟩
   ·have hlm:ts.length+1<=maxLen:=(by unfold maxLen;omega);have hl56:(ts.length+1)*56<=140737488355328:=(by omega);have hbc:w.heap.size+2<=wc.heap.size:=(by omega);go_wp2_with (at_builtin;refine wpList_append_own_at _ rfl _ _ 27 rfl (w.heap.size+2) 51 i0 (.agg #[zI 0,S [],zI 0,zS]) 4 56 Tryz.underlying27 hi hz0 hz1 hz2 rfl (by decide) _ _ _ rfl (HOWN.o.alloc _) ⟨wc.heap.size,0,none⟩ 1 1 [zI 4,S [122],zI 0,zS] rfl rfl (fun j u h=>ocells_new wc _ rfl [zI 4,S [122],zI 0,zS] _ j u h) oneCellT hlm hl56 (oalloc_le hbc) ?_);intro v' w10 hown10 hg10 _ hloc10;obtain⟨A10,c10,rfl⟩:=oform hown10;obtain⟨hr10,ht10,hb10⟩:=s_hole_final hO HB.o hsa.2 hOs HR0.o HOWN.o HNEO.o HC.o.2.2.2.1.o hown10 hg10 hloc10;have y10:=(zC hr10 3:zc w10 O 3 (.slice A' ts.length c'));have f10:=zF hr10 3;have HLC10:=zH (s_own_le hown10);have HR10:=zH hr10;have HT10:=zH ht10;have HB10:=zH hb10;clear hr10 ht10 hb10 hown10 hg10 hloc10;go_wp2_with fail;go_meet;exact zH ⟨k,n,p,ts++[.node 4 [122] 0 []],A10,c10,zH (by rw[Zq];exact tset3 HR10.o),zH (HT10.o.setS _ _),zH (HB10.o.setCell (p:=⟨O,3,none⟩) (by simp only;omega) _),zH ⟨HPT.o.nameS,by rw[Zq];exact HLC10.o,by rw[Raw.sizes_app];simp[Raw.sizes,Raw.size]⟩⟩
   ·by_cases hne:0<ts.length
    ·have hd1:decide (0<ts.length)=true:=(by simpa using hne);obtain⟨tr,tl,hts⟩:∃tr tl,ts=tr++[tl]:=⟨ts.dropLast,ts.getLast (List.ne_nil_of_length_pos hne),(List.dropLast_concat_getLast (List.ne_nil_of_length_pos hne)).symm⟩;have HTS:=zH hts;clear hts;obtain⟨g,hvg⟩:∃g,A'=some ⟨g,0,none⟩:=by
      rcases HOWN.o.2 with⟨_,h2⟩ | ⟨g,cap,cur,hv,_⟩
      ·omega
      injection hv with e1 _ e3;exact⟨g,e1⟩
     subst hvg;have hlc:=HLC.o;have hl:ts.length=tr.length+1:=(by rw[HTS.o];simp);have hw1:IntKind.i64.wrap ((ts.length:Int)-1)=(tr.length:Int):=(by rw[Zi _ (by omega)];omega);have hw2:(0:Int)<=(tr.length:Int):=(by omega);have hw3:(tr.length:Int)<=(c':Int):=(by omega);have HL:=zH hl;clear hl;go_wp2_with fail;have hl:=HL.o;have hz:Raw.sizes ts=Raw.sizes tr+tl.size:=(by rw[HTS.o,Raw.sizes_app];simp[Raw.sizes]);have ht4:=HT0.o;rw[HTS.o] at ht4;go_meet;exact zH ⟨k,n,p,tr,some ⟨g,0,none⟩,c',zH (tset3 HR0.o),zH (ht4.preS.setS _ _),zH ((HB.o.mono hsa.2).setCell (p:=⟨O,3,none⟩) (by simp only;omega) _),zH ⟨HPT.o.nameS,by omega,by omega⟩⟩
    have hd1:decide (0<ts.length)=false:=(by simpa using hne);go_wp2_with fail;go_meet;exact zH ⟨k,n,p,ts,A',c',HR0,zH (HT0.o.keep (fun _ _ _=>rfl) (zN _) (fun b _ hb=>by rcases hb with hb | hb;exact .inl hb;exact .inr hb.1)),zH (HB.o.mono hsa.2),zH ⟨HPT.o.nameS,HLC.o,by omega⟩⟩
   ·obtain⟨wt,hwt⟩:∃wt,wc.alloc (.cells (zT k n p A' ts c') 51)=wt:=⟨_,rfl⟩;have qt:=zQ hwt;have HR1:Hid (zk wt O (zT k n p A' ts c') 51):=zH (by rw[<-hwt];exact alloc_oldS _ _ _ _ HR0.o);have HT1:Hid (TreesAtP (fun b=>(q b/\b<w.heap.size)\/(w.heap.size+2<=b/\b≠O)) wt A' ts):=zH (by rw[<-hwt];exact HT0.o.keep (fun b _ hlt=>zA _ _ _ hlt) (by simp) (fun b _ hb=>hb));have HB1:Hid (Below (w.heap.size+2) wa wt):=zH (by rw[<-hwt];exact(HB.o.mono hsa.2).alloc (by omega) _);obtain⟨s1,s2,s3,s4,h1,h2,h3,h4,⟨m0,m1,m2,m3⟩,⟨l0,l1,l2,l3⟩,hq4,ho4⟩:=put4 HR1.o (zI 3) (S []) (zI 0) (.slice (some ⟨wc.heap.size,0,none⟩) 1 1);have HLAM:Hid (TreesAtP (fun b=>(q b/\b<w.heap.size)\/w.heap.size+2<=b) s4 (some ⟨wc.heap.size,0,none⟩) [.node k n p ts]):=zH (by
     have hT:TreeVP (fun b=>(q b/\b<w.heap.size)\/w.heap.size+2<=b) s4 (.node k n p ts) (.agg (zT k n p A' ts c')):=TreeVP.mk HPT.o.nameS HLC.o (HT1.o.keep (fun b hb hlt=>ho4.block b hlt (fun e=>by have:=zO e;rcases hb with hb | hb <;> omega)) ho4.size (fun b _ hb=>by rcases hb with hb | hb;exact .inl hb;exact .inr hb.1));obtain⟨_,_,_,_,e,hP⟩:=hT;cases e;exact tone hP (.inr (by omega)) (ho4.heap qt (by omega)))
    have HQ4:=zH hq4;have HO4:=zH ho4;clear hq4 ho4 qt;go_wp2_with fail;go_meet;exact zH ⟨3,[],0,[.node k n p ts],some ⟨wc.heap.size,0,none⟩,1,HQ4,HLAM,zH (Oth.below HB1.o HO4.o (by omega) (by have:=HB1.o.size;omega)),zH ⟨by simp,zN _,by simp[Raw.sizes,Raw.size]⟩⟩
   ·obtain⟨s1,s2,s3,s4,h1,h2,h3,h4,⟨m0,m1,m2,m3⟩,⟨l0,l1,l2,l3⟩,hq4,ho4⟩:=put4 HR0.o (zI 1) (S []) (zI 0) zS;have HQ4:=zH hq4;have HO4:=zH ho4;clear hq4 ho4;go_wp2_with fail;go_meet;exact zH ⟨1,[],0,[],none,0,HQ4,zH (fun h=>absurd rfl h),zH (Oth.below (HB.o.mono hsa.2) HO4.o (by omega) (by omega)),zH ⟨by simp,zN _,by simp[Raw.sizes]⟩⟩
   ·go_upto_region 23 with fail;go_region_law (go_simp;go_at_call 38;refine(cutO_any _ 3 _ (by omega) (by omega)).mono ?_;rintro e w5⟨rfl,hw5⟩;obtain rfl:=hw5.symm);all_goals
     go_wp2_with fail;go_meet;exact zH ⟨k,n,_,ts,A',c',zH (s_set2 HR0.o),zH (HT0.o.setS _ _).drewS,zH ((HB.o.mono hsa.2).setCell (p:=⟨O,2,none⟩) (by simp only;omega) _).drew,zH ⟨HPT.o.nameS,HLC.o,by omega⟩⟩
   obtain⟨wt,hwt⟩:∃wt,wc.alloc (.cells #[.string ⟨#[122]⟩,.string ⟨#[110,97,116]⟩,.string ⟨#[110,111,98,111,100,121]⟩] 9)=wt:=⟨_,rfl⟩;have HR1:Hid (zk wt O (zT k n p A' ts c') 51):=zH (by rw[<-hwt];exact alloc_oldS _ _ _ _ HR0.o);have HT1:Hid (TreesAtP (fun b=>(q b/\b<w.heap.size)\/(w.heap.size+2<=b/\b≠O)) wt A' ts):=zH (by rw[<-hwt];exact HT0.o.keep (fun b _ hlt=>zA _ _ _ hlt) (by simp) (fun b _ hb=>hb));have HB1:Hid (Below (w.heap.size+2) wa wt):=zH (by rw[<-hwt];exact(HB.o.mono hsa.2).alloc (by omega) _);have TAB:=zH (fun r hr=>by have h:=spC_cell wc r hr;rw[hwt] at h;exact h);obtain⟨x0,x1,x2,x3⟩:=cells4t HR1.o;have f0:=zF HR1.o 0;have f1:=zF HR1.o 1;have f2:=zF HR1.o 2;have f3:=zF HR1.o 3;go_wp2_with fail;refine(cutO_any _ 3 wt (by omega) (by omega)).mono ?_;rintro e w2⟨rfl,hw2⟩;obtain rfl:=hw2.symm;have hrr:=cutO_lt (wrap64 (y.tdiv 9)) 3 (by omega);generalize cutO (wrap64 (y.tdiv 9)) 3=rr at *;have yt:=TAB.o rr hrr;obtain⟨yt,hyl⟩:=yt;have hr0:(0:Int)<=(rr:Int):=(by omega);have hr1:(rr:Int)<3:=(by omega);generalize spC.getD rr []=nn at *;clear hwt;have HYL:=zH hyl;obtain⟨s1,s2,s3,s4,h1,h2,h3,h4,⟨m0,m1,m2,m3⟩,⟨l0,l1,l2,l3⟩,hq4,ho4⟩:=put4 HR1.o (zI 4) (S nn) (zI 0) zS;have HQ4:=zH hq4;have HO4:=zH ho4;clear hq4 ho4 hyl;go_wp2_with fail;go_meet;exact zH ⟨4,nn,0,[],none,0,HQ4,zH (fun h=>absurd rfl h),zH (Oth.below HB1.o HO4.o (by omega) (by have:=HB1.o.size;omega)),zH ⟨by have:=HYL.o;omega,zN _,by simp[Raw.sizes]⟩⟩
  obtain⟨k',n',p',ts',A'',c'',HR,HT,HB,HZ⟩:=hcut.o;obtain⟨x0,x1,x2,x3⟩:=cells4t HR.o;obtain⟨s1',s2',s3',s4',h1',h2',h3',h4',⟨u0,u1,u2,u3⟩,⟨g0,g1,g2,g3⟩,hq',ho'⟩:=put4 ((HB.o.block _ (by omega)).trans HQR.o) (zI k') (S n') (zI p') (.slice A'' ts'.length c'');have HQ':=zH hq';have HO':=zH ho';clear hq' ho';go_wp2_with fail;refine Zb (results_term rfl _ _ _ _ _ _ _ rfl HQ'.o) ?_;have hs':=HO'.o.size;have hb':=HB.o.size;refine⟨⟨.node k' n' p' ts',_,rfl,TreeVP.mk HZ.o.1 HZ.o.2.1 ?_,by simp only[Raw.size];have:=HZ.o.2.2;omega⟩,?_⟩
  ·exact HT.o.keep (fun b hb hlt=>HO'.o.block b hlt (fun e=>by have:=zO e;rcases hb with hb | hb <;> omega)) hs' (fun b _ hb=>by rcases hb with hb | hb;exact .inl hb.1;exact .inr (by omega))
  exact Oth.below (BA.o.trans (HB.o.mono (by omega))) HO'.o (by omega) (by omega)
theorem s_spoil_any:∀m,m≤2001→SSpoilUpto m
 |0,_=>fun t _ _ _ _ _ h=>by have:=t.size_pos;omega
 |m+1,h=>s_spoil_step m (by omega) (s_spoil_any m (by omega))
end Go.Proofs.YtadjpadieljjlaaGreat
namespace Lfc
mutual
theorem posB_mono{b b':Int}(h:b≤b'):∀t:Raw,t.posB b=true→t.posB b'=true
 |.node k n p ts=>by
  rw[Raw.posB,Raw.posB];simp only[Bool.and_eq_true,decide_eq_true_eq];exact fun hh=>⟨⟨⟨hh.1.1.1,by omega⟩,hh.1.2⟩,posBs_mono h ts hh.2⟩
theorem posBs_mono{b b':Int}(h:b≤b'):∀ts:List Raw,Raw.posBs b ts=true→Raw.posBs b' ts=true
 |[]=>fun _=>rfl
 |a :: r=>by
  rw[Raw.posBs,Raw.posBs];simp only[Bool.and_eq_true];exact fun hh=>⟨posB_mono h a hh.1,posBs_mono h r hh.2⟩
end
end Lfc
namespace Go.Proofs.YtadjpadieljjlaaGreat
open Go.RowKit Go.Maps _root_.Lfc
attribute [local go_sem ↓] Go.wp_at_zero Go.wp_at_succ
theorem results_terms2{fn:Func}{p u:Tmp}(h:fn.results=#[.cell p 51,.cell u 51])(tmps:Array Value)(w:World)(g g':Nat)(v0 v1 v2 v3 u0 u1 u2 u3:Value)(hp:tmps.getD p undef=.pointer (some ⟨g,0,none⟩))(hu:tmps.getD u undef=.pointer (some ⟨g',0,none⟩))(hg:w.heap[g]?=some (.cells #[v0,v1,v2,v3] 51 (0,0)))(hg':w.heap[g']?=some (.cells #[u0,u1,u2,u3] 51 (0,0))) :
  (results fn tmps).run Tryz.prog w=.ok (.tuple #[.agg #[v0,v1,v2,v3],.agg #[u0,u1,u2,u3]]) w:=by
 have hp':tmps[p]?.getD undef=.pointer (some ⟨g,0,none⟩):=by simpa using hp
 have hu':tmps[u]?.getD undef=.pointer (some ⟨g',0,none⟩):=by simpa using hu
 simp[results,h,hp',hu',asAddr,run_loadVar_row w g _ _ _ _ _ hg Tryz.underlying51 rfl term_size,run_loadVar_row w g' _ _ _ _ _ hg' Tryz.underlying51 rfl term_size,Sem.run_bind,Result.andThen]
def PairAns(w:World)(T n:Nat)(e:Ending)(w':World):Prop :=
 (∃x u vx vu,e=.returned (.tuple #[vx,vu])∧TreeVP (fun b=>w.heap.size≤b) w' x vx∧TreeVP (fun b=>w.heap.size≤b) w' u vu∧x.size≤n∧u.size≤n∧u.posB 1048576=true)∧TapeI T w'∧Oth T w w'
theorem pair_ret{w wr:World}{T n:Nat}{k p k' p':Int}{nm nm':List UInt8}{ts ts':List Raw}{A A':Option Addr}{c c':Nat}(hT:T<w.heap.size)(ho:Oth T w wr)(ht:TapeI T wr)
  (hq:wr.heap[w.heap.size]?=some (.cells #[.int .i64 0,S [],.int .i64 0,.slice none 0 0] 51 (0,0))) (hq':wr.heap[w.heap.size+1]?=some (.cells #[.int .i64 0,S [],.int .i64 0,.slice none 0 0] 51 (0,0)))
  (hx:TreeVP (fun b=>w.heap.size≤b∧b≠w.heap.size∧b≠w.heap.size+1) wr (.node k nm p ts) (.agg #[.int .i64 k,S nm,.int .i64 p,.slice A ts.length c])) (hu:TreeVP (fun b=>w.heap.size≤b∧b≠w.heap.size∧b≠w.heap.size+1) wr (.node k' nm' p' ts') (.agg #[.int .i64 k',S nm',.int .i64 p',.slice A' ts'.length c'])) (hsx:(Raw.node k nm p ts).size≤n) (hsu:(Raw.node k' nm' p' ts').size≤n) (hpo:(Raw.node k' nm' p' ts').posB 1048576=true) :
  ∃s1 s2 s3 s4,wr.setCell ⟨w.heap.size,0,none⟩ (.int .i64 k)=s1∧s1.setCell ⟨w.heap.size,1,none⟩ (S nm)=s2∧s2.setCell ⟨w.heap.size,2,none⟩ (.int .i64 p)=s3∧s3.setCell ⟨w.heap.size,3,none⟩ (.slice A ts.length c)=s4 ∧
   (wr.cell? ⟨w.heap.size,0,none⟩=some (.int .i64 0)∧s1.cell? ⟨w.heap.size,1,none⟩=some (S [])∧s2.cell? ⟨w.heap.size,2,none⟩=some (.int .i64 0)∧s3.cell? ⟨w.heap.size,3,none⟩=some (.slice none 0 0)) ∧
   (wr.frozen? ⟨w.heap.size,0,none⟩=false∧s1.frozen? ⟨w.heap.size,1,none⟩=false∧s2.frozen? ⟨w.heap.size,2,none⟩=false∧s3.frozen? ⟨w.heap.size,3,none⟩=false) ∧
   (∀b j,b<wr.heap.size→b≠w.heap.size→s4.cell? ⟨b,j,none⟩=wr.cell? ⟨b,j,none⟩) ∧
  ∃s5 s6 s7 s8,s4.setCell ⟨w.heap.size+1,0,none⟩ (.int .i64 k')=s5∧s5.setCell ⟨w.heap.size+1,1,none⟩ (S nm')=s6∧s6.setCell ⟨w.heap.size+1,2,none⟩ (.int .i64 p')=s7∧s7.setCell ⟨w.heap.size+1,3,none⟩ (.slice A' ts'.length c')=s8 ∧
   (s4.cell? ⟨w.heap.size+1,0,none⟩=some (.int .i64 0)∧s5.cell? ⟨w.heap.size+1,1,none⟩=some (S [])∧s6.cell? ⟨w.heap.size+1,2,none⟩=some (.int .i64 0)∧s7.cell? ⟨w.heap.size+1,3,none⟩=some (.slice none 0 0)) ∧
   (s4.frozen? ⟨w.heap.size+1,0,none⟩=false∧s5.frozen? ⟨w.heap.size+1,1,none⟩=false∧s6.frozen? ⟨w.heap.size+1,2,none⟩=false∧s7.frozen? ⟨w.heap.size+1,3,none⟩=false) ∧
   Hid (s8.heap[w.heap.size]?=some (.cells #[.int .i64 k,S nm,.int .i64 p,.slice A ts.length c] 51 (0,0)))∧Hid (s8.heap[w.heap.size+1]?=some (.cells #[.int .i64 k',S nm',.int .i64 p',.slice A' ts'.length c'] 51 (0,0))) ∧
   Hid (PairAns w T n (.returned (.tuple #[.agg #[.int .i64 k,S nm,.int .i64 p,.slice A ts.length c],.agg #[.int .i64 k',S nm',.int .i64 p',.slice A' ts'.length c']])) s8):=by
 obtain⟨s1,s2,s3,s4,g1,g2,g3,g4,hy,hf,hq4,hot⟩:=tput4 hq (.int .i64 k) (S nm) (.int .i64 p) (.slice A ts.length c);obtain⟨s5,s6,s7,s8,g5,g6,g7,g8,hy',hf',hq8,hot'⟩:=tput4 (hot.heap hq' (by omega)) (.int .i64 k') (S nm') (.int .i64 p') (.slice A' ts'.length c');have hs:=ho.size;have h1:=hot.size;have h2:=hot'.size;have keep:∀b,(w.heap.size≤b∧b≠w.heap.size∧b≠w.heap.size+1)→b<wr.heap.size→s8.heap[b]?=wr.heap[b]?:=fun b hb hlt=>(hot'.block b (by omega) (fun e=>hb.2.2 (zO e))).trans (hot.block b hlt (fun e=>hb.2.1 (zO e)));refine⟨s1,s2,s3,s4,g1,g2,g3,g4,hy,hf,fun b j hb hne=>hot.cell (p:=⟨b,j,none⟩) hb hne,s5,s6,s7,s8,g5,g6,g7,g8,hy',hf',zH (hot'.heap hq4 (by omega)),zH hq8,zH ⟨⟨_,_,_,_,rfl,hx.keep keep (by omega) (fun b _ hb=>hb.1),hu.keep keep (by omega) (fun b _ hb=>hb.1),hsx,hsu,hpo⟩,(ht.oth (by omega) hot).oth (by omega) hot',?_⟩⟩;exact⟨hot'.os.trans (hot.os.trans ho.os),hot'.tape.trans (hot.tape.trans ho.tape),hot'.output.trans (hot.output.trans ho.output),by omega,fun b hb hn=>(hot'.block b (by omega) (fun e=>by have:=zO e;omega)).trans ((hot.block b (by omega) (fun e=>by have:=zO e;omega)).trans (ho.block b hb hn))⟩
theorem PairAns.drew{w w':World}{T n:Nat}{e:Ending}(h:PairAns w T n e w'):PairAns w T n e w'.drew:=by
 obtain⟨⟨x,u,vx,vu,he,hx,hu,h1,h2,h3⟩,ht,ho⟩:=h;exact⟨⟨x,u,vx,vu,he,TreeVP.keep (w:=w') (w':=w'.drew) (fun _ _ _=>rfl) (zN w'.heap.size) (fun _ _ h=>h) hx,TreeVP.keep (w:=w') (w':=w'.drew) (fun _ _ _=>rfl) (zN w'.heap.size) (fun _ _ h=>h) hu,h1,h2,h3⟩,ht.below (zB _ _).drew,ho.drew⟩
structure PairS(w:World)(T Bu Bx n:Nat)(k p:Int)(nm:List UInt8)(ts:List Raw)(A:Option Addr)(c:Nat)(wx:World):Prop where
 x:∃k nm p ts A c,wx.heap[Bx]?=some (.cells #[.int .i64 k,S nm,.int .i64 p,.slice A (List.length ts) c] 51 (0,0))∧TreeVP (fun b=>w.heap.size≤b∧b≠w.heap.size∧b≠w.heap.size+1∧b≠Bx) wx (.node k nm p ts) (.agg #[.int .i64 k,S nm,.int .i64 p,.slice A (List.length ts) c])∧(Raw.node k nm p ts).size≤n
 u:wx.heap[Bu]?=some (.cells #[.int .i64 k,S nm,.int .i64 p,.slice A ts.length c] 51 (0,0))
 uv:TreeVP (fun b=>w.heap.size≤b∧b≠w.heap.size∧b≠w.heap.size+1∧b≠Bx) wx (.node k nm p ts) (.agg #[.int .i64 k,S nm,.int .i64 p,.slice A ts.length c])
 tape:TapeI T wx
 oth:Oth T w wx
 r4:wx.heap[w.heap.size]?=some (.cells #[.int .i64 0,S [],.int .i64 0,.slice none 0 0] 51 (0,0))
 r5:wx.heap[w.heap.size+1]?=some (.cells #[.int .i64 0,S [],.int .i64 0,.slice none 0 0] 51 (0,0))
theorem PairS.mono{w wx:World}{T Bu Bx n n':Nat}{k p:Int}{nm:List UInt8}{ts:List Raw}{A:Option Addr}{c:Nat}(h:PairS w T Bu Bx n k p nm ts A c wx)(hn:n≤n'):PairS w T Bu Bx n' k p nm ts A c wx:=by
 obtain⟨k0,nm0,p0,ts0,A0,c0,hq,hv,hz⟩:=h.x;exact⟨⟨k0,nm0,p0,ts0,A0,c0,hq,hv,zR hz hn⟩,h.u,h.uv,h.tape,h.oth,h.r4,h.r5⟩
theorem PairS.put{w w8 w10 w11 s4:World}{T Bu Bx n n':Nat}{k p k' p':Int}{nm nm':List UInt8}{ts ts':List Raw}{A A':Option Addr}{c c':Nat}(h:PairS w T Bu Bx n k p nm ts A c w8)(hTl:T<w.heap.size)(hBu:w.heap.size+2≤Bu)(hux:Bu<Bx)(hBx:Bx<w8.heap.size)(o10:Oth T w8 w10)(T10:TapeI T w10)(b11:Below w10.heap.size w10 w11)(hot:Oth Bx w11 s4)(hq4:s4.heap[Bx]?=some (.cells #[.int .i64 k',S nm',.int .i64 p',.slice A' ts'.length c'] 51 (0,0)))
  (hv:TreeVP (fun b=>(w.heap.size≤b∧b≠w.heap.size∧b≠w.heap.size+1∧b≠Bx)∨w10.heap.size≤b) w11 (.node k' nm' p' ts') (.agg #[.int .i64 k',S nm',.int .i64 p',.slice A' ts'.length c'])) (hz:(Raw.node k' nm' p' ts').size≤n'):PairS w T Bu Bx n' k p nm ts A c s4:=by
 have h1:=h.oth.size;have h2:=o10.size;have h3:=b11.size;have h4:=hot.size;have keep:∀b,b<w8.heap.size→b≠T→b≠Bx→s4.heap[b]?=w8.heap[b]?:=fun b hb hT hB=>(hot.block b (by omega) (fun e=>hB (zO e))).trans ((b11.block b (by omega)).trans (o10.block b hb (fun e=>hT (zO e))));refine⟨⟨k',nm',p',ts',A',c',hq4,hv.keep (fun b hb hlt=>hot.block b hlt (fun e=>by have e:=zO e;rcases hb with hb | hb;exact hb.2.2.2 e;omega)) h4 (fun b _ hb=>by rcases hb with hb | hb;exact hb;exact⟨by omega,by omega,by omega,by omega⟩),hz⟩,(keep Bu (by omega) (by omega) (by omega)).trans h.u,h.uv.keep (fun b hb hlt=>keep b hlt (by have:=hb.1;omega) hb.2.2.2) (by omega) (fun b _ hb=>hb),(T10.below b11).oth (by omega) hot,?_,(keep _ (by omega) (by omega) (by omega)).trans h.r4,(keep _ (by omega) (by omega) (by omega)).trans h.r5⟩;exact⟨hot.os.trans (b11.os.trans (o10.os.trans h.oth.os)),hot.tape.trans (b11.tape.trans (o10.tape.trans h.oth.tape)),hot.output.trans (b11.output.trans (o10.output.trans h.oth.output)),by omega,fun b hb hn=>(keep b (by omega) (fun e=>hn (by rw[e])) (by omega)).trans (h.oth.block b hb hn)⟩
theorem mPair_any(T:Nat)(ks:List Int)(A0:Option Addr)(c0:Nat)(w:World)(hks:ks.length<=40)(hT:TapeI T w) :
  Calls Tryz.prog 18 #[.pointer (some ⟨T,0,none⟩),.slice A0 ks.length c0] w (PairAns w T 40):=by
 have hTl:=hT.lt;obtain⟨vars,hvars⟩:∃vars,ks.length=vars:=⟨_,rfl⟩;rw[hvars] at hks ⊢;clear hvars;obtain⟨w2,hw2⟩:∃w2,(w.alloc (.cells #[zI 0,S [],zI 0,zS] 51)).alloc (.cells #[zI 0,S [],zI 0,zS] 51)=w2:=⟨_,rfl⟩;have b12:zb w w2:=by rw[<-hw2];exact((zB _ _).alloc (zN _) _).alloc (by simp) _
 have q1:w2.heap[w.heap.size]?=some (.cells #[zI 0,S [],zI 0,zS] 51 (0,0)):=by rw[<-hw2];exact(zA _ _ _ (by simp)).trans (zW _ _)
 have q2:w2.heap[w.heap.size+1]?=some (.cells #[zI 0,S [],zI 0,zS] 51 (0,0)):=by
  rw[<-hw2];have:=zW (w.alloc (.cells #[zI 0,S [],zI 0,zS] 51)) (.cells #[zI 0,S [],zI 0,zS] 51);simpa using this
 have hs2:=zL q2;have Q1:=zH q1;have Q2:=zH q2;have T2:=zH (hT.below b12);have O2:Hid (Oth T w w2):=zH (zE b12);clear hT b12 q1 q2;go_enter Tryz.func18,Tryz.ntmps18;go_upto_region 1 with fail;clear hw2;go_wp2_with fail;refine(mObj_any 4 (by omega) T vars w2 (by omega) T2.o).mono ?_;rintro e w3⟨⟨u,vu,rfl,hvu,hsu,hpu⟩,T3',o3'⟩;obtain⟨ku,nu,pu,us,hue⟩:=Raw.ex u;rw[hue] at hvu hsu hpu;obtain⟨Au,cu,rfl,hPu⟩:=hvu.openT;have hs3:=o3'.size;obtain⟨w4,hw4⟩:∃w4,w3.alloc (.cells (zT ku nu pu Au us cu) 51)=w4:=⟨_,rfl⟩;have b4:=zG hw4;have q4:=zQ hw4;have l4:=zL q4;have o24:Oth T w2 w4:=o3'.of_new (b4.mono hs3);have T4:=zH (T3'.below b4);have O4:=zH (O2.o.trans o24);have Q14:=zH (o24.heap Q1.o (by omega));have Q24:=zH (o24.heap Q2.o (by omega));have Q4:=zH q4;have HVU:Hid (TreeVP (fun b=>w.heap.size<=b/\b≠w.heap.size/\b≠w.heap.size+1) w4 (.node ku nu pu us) (.agg (zT ku nu pu Au us cu))):=zH (hvu.keep (fun b _ hlt=>b4.block b hlt) b4.size (fun b _ hb=>by have hb:w2.heap.size<=b:=hb;exact⟨by omega,by omega,by omega⟩));have hsu2:(Raw.node ku nu pu us).size<=31:=by omega
 have HPU:=zH (posB_mono (b':=1048576) (by omega) _ hpu);have H4:=zH hw4;clear hvu hPu hsu hpu T3' o3' b4 q4 o24 hw4 T2 O2 Q1 Q2 hue;go_upto_region 2 with fail;rw[H4.o];clear H4;go_wp2_with fail;refine(tapeI_next T 4 w4 (by omega) (by omega) T4.o).mono ?_;rintro e w5⟨⟨r,hr,rfl⟩,T5',o5'⟩;have hs5:=o5'.size;have T5:=zH T5';have O5:=zH (O4.o.trans o5');have Q15:=zH (o5'.heap Q14.o (by omega));have Q25:=zH (o5'.heap Q24.o (by omega));have QU5:=zH (o5'.heap Q4.o (by omega));have HV5:=zH (HVU.o.keep (fun b hb hlt=>o5'.block b hlt (fun e=>by have:=zO e;have:=hb.1;omega)) o5'.size (fun b _ hb=>hb));clear T5' o5' T4 O4 Q14 Q24 Q4 HVU;by_cases hr0:r=0
 ·subst hr0;go_upto_region 3 with fail;have RET:Hid (∀w6,Oth T w5.drew w6->TapeI T w6->∀(kx px:Int)(nx:List UInt8)(xs:List Raw)(Ax:Option Addr)(cx:Nat),TreeVP (fun b=>w5.drew.heap.size<=b) w6 (.node kx nx px xs) (.agg (zT kx nx px Ax xs cx))->(Raw.node kx nx px xs).size+1<=2 ^ (2+1) ->
   (zc w6 w3.heap.size 0 (zI ku)/\zc w6 w3.heap.size 1 (S nu)/\zc w6 w3.heap.size 2 (zI pu)/\zc w6 w3.heap.size 3 (.slice Au us.length cu)) /\
   ∃s1 s2 s3 s4,w6.setCell ⟨w.heap.size,0,none⟩ (zI kx)=s1/\s1.setCell ⟨w.heap.size,1,none⟩ (S nx)=s2/\s2.setCell ⟨w.heap.size,2,none⟩ (zI px)=s3/\s3.setCell ⟨w.heap.size,3,none⟩ (.slice Ax (List.length xs) cx)=s4 /\
   (zc w6 w.heap.size 0 (zI 0)/\zc s1 w.heap.size 1 (S [])/\zc s2 w.heap.size 2 (zI 0)/\zc s3 w.heap.size 3 zS) /\
   (w6.frozen? ⟨w.heap.size,0,none⟩=false/\s1.frozen? ⟨w.heap.size,1,none⟩=false/\s2.frozen? ⟨w.heap.size,2,none⟩=false/\s3.frozen? ⟨w.heap.size,3,none⟩=false) /\
   (zc s4 w3.heap.size 0 (zI ku)/\zc s4 w3.heap.size 1 (S nu)/\zc s4 w3.heap.size 2 (zI pu)/\zc s4 w3.heap.size 3 (.slice Au us.length cu)) /\
   ∃s5 s6 s7 s8,s4.setCell ⟨w.heap.size+1,0,none⟩ (zI ku)=s5/\s5.setCell ⟨w.heap.size+1,1,none⟩ (S nu)=s6/\s6.setCell ⟨w.heap.size+1,2,none⟩ (zI pu)=s7/\s7.setCell ⟨w.heap.size+1,3,none⟩ (.slice Au us.length cu)=s8 /\
   (zc s4 (w.heap.size+1) 0 (zI 0)/\zc s5 (w.heap.size+1) 1 (S [])/\zc s6 (w.heap.size+1) 2 (zI 0)/\zc s7 (w.heap.size+1) 3 zS) /\
   (s4.frozen? ⟨w.heap.size+1,0,none⟩=false/\s5.frozen? ⟨w.heap.size+1,1,none⟩=false/\s6.frozen? ⟨w.heap.size+1,2,none⟩=false/\s7.frozen? ⟨w.heap.size+1,3,none⟩=false) /\
   Hid (zk s8 w.heap.size (zT kx nx px Ax xs cx) 51)/\Hid (s8.heap[w.heap.size+1]?=some (.cells (zT ku nu pu Au us cu) 51 (0,0))) /\
   Hid (PairAns w T 40 (.returned (.tuple #[.agg (zT kx nx px Ax xs cx),.agg (zT ku nu pu Au us cu)])) s8)):=zH (fun w6 o6 t6 kx px nx xs Ax cx hvx hsx=>by
    have o6':Oth T w5 w6:=⟨o6.os,o6.tape,o6.output,o6.size,o6.block⟩;have hz:=cells4t (o6'.heap QU5.o (by omega));have hs6:=o6'.size;obtain⟨s1,s2,s3,s4,g1,g2,g3,g4,hy,hf,hk4,hrest⟩:=pair_ret (n:=40) hTl (O5.o.trans o6') t6 (o6'.heap Q15.o (by omega)) (o6'.heap Q25.o (by omega)) (hvx.keep (fun _ _ _=>rfl) (zN _) (fun b _ hb=>by have hb:w5.heap.size<=b:=hb;exact⟨by omega,by omega,by omega⟩)) (HV5.o.keep (fun b hb hlt=>o6'.block b hlt (fun e=>by have:=zO e;have:=hb.1;omega)) o6'.size (fun b _ hb=>hb)) (by omega) (by omega) HPU.o;have hkk:∀j,s4.cell? ⟨w3.heap.size,j,none⟩=w6.cell? ⟨w3.heap.size,j,none⟩:=fun j=>hk4 _ j (by omega) (by omega);exact⟨hz,s1,s2,s3,s4,g1,g2,g3,g4,hy,hf,⟨(hkk 0).trans hz.1,(hkk 1).trans hz.2.1,(hkk 2).trans hz.2.2.1,(hkk 3).trans hz.2.2.2⟩,hrest⟩)
  obtain⟨v0,v1,v2,v3⟩:=cells4t QU5.o;go_region_law (go_simp;go_at_call 28;refine(mObj_any 2 (by omega) T vars _ (by omega) (T5.o.below (zB _ _).drew)).mono ?_;rintro e w6⟨⟨x,vx,rfl,hvx,hsx,hpx⟩,T6,o6⟩;obtain⟨kx,nx,px,xs,hxe⟩:=Raw.ex x;rw[hxe] at hvx hsx;obtain⟨Ax,cx,rfl,hPx⟩:=hvx.openT;obtain⟨⟨z0,z1,z2,z3⟩,s1,s2,s3,s4,g1,g2,g3,g4,⟨y0,y1,y2,y3⟩,⟨f0,f1,f2,f3⟩,⟨z4,z5,z6,z7⟩,s5,s6,s7,s8,g5,g6,g7,g8,⟨y4,y5,y6,y7⟩,⟨f4,f5,f6,f7⟩,HQa,HQb,HZ⟩:=RET.o w6 o6 T6 kx px nx xs Ax cx hvx hsx);all_goals
   clear hvx hPx T6 o6;go_wp2_with fail;refine Zb (results_terms2 rfl _ _ _ _ _ _ _ _ _ _ _ _ rfl rfl HQa.o HQb.o) ?_;exact HZ.o
 have hr1:((r:Int) == 0)=false:=by simp;omega
 clear hr0;obtain⟨v0,v1,v2,v3⟩:=cells4t QU5.o;go_wp2_with fail;refine(mPart_any (fun b=>w.heap.size<=b/\b≠w.heap.size/\b≠w.heap.size+1) T vars 31 _ _ w5 (by omega) (by omega) hsu2 HPU.o T5.o (fun b hb=>by have:=hb.1;omega) (fun b hb=>⟨by have:=T5.o.lt;omega,by omega,by omega⟩) HV5.o).mono ?_;rintro e w6⟨⟨kx,nx,px,xs,Ax,cx,rfl,hvx,hsx,_⟩,T6',o6'⟩;have hs6:=o6'.size;obtain⟨w7,hw7⟩:∃w7,w6.alloc (.cells (zT kx nx px Ax xs cx) 51)=w7:=⟨_,rfl⟩;have b7:=zG hw7;have q7:=zQ hw7;have o57:Oth T w5 w7:=o6'.of_new (b7.mono hs6);have PS7:Hid (PairS w T w3.heap.size w6.heap.size 31 ku pu nu us Au cu w7):=zH {
  x:=⟨kx,nx,px,xs,Ax,cx,q7,hvx.keep (fun b _ hlt=>b7.block b hlt) b7.size (fun b hlt hb=>⟨hb.1,hb.2.1,hb.2.2,by omega⟩),by omega⟩
  u:=o57.heap QU5.o (by omega)
  uv:=HV5.o.keep (fun b hb hlt=>o57.block b hlt (fun e=>by have:=zO e;have:=hb.1;omega)) o57.size (fun b hlt hb=>⟨hb.1,hb.2.1,hb.2.2,by omega⟩)
  tape:=T6'.below b7
  oth:=O5.o.trans o57
  r4:=o57.heap Q15.o (by omega)
  r5:=o57.heap Q25.o (by omega) }
 have H7:=zH hw7;have hBx:w3.heap.size<w6.heap.size:=by omega
 clear hvx hsx T6' o6' b7 q7 o57 hw7 v0 v1 v2 v3 T5 O5 Q15 Q25 QU5 HV5;go_upto_region 5 with fail;rw[H7.o];clear H7;go_wp2_with fail;refine(tapeI_next T 6 w7 (by omega) (by omega) PS7.o.tape).mono ?_;rintro e w8⟨⟨r2,hr2,rfl⟩,T8',o8'⟩;have PS8:Hid (PairS w T w3.heap.size w6.heap.size 31 ku pu nu us Au cu w8):=zH (by
  obtain⟨k,nm,p,ts,A,c,hq,hv,hz⟩:=PS7.o.x;exact⟨⟨k,nm,p,ts,A,c,o8'.heap hq (by omega),hv.keep (fun b hb hlt=>o8'.block b hlt (fun e=>by have:=zO e;have:=hb.1;omega)) o8'.size (fun b _ hb=>hb),hz⟩,o8'.heap PS7.o.u (by omega),PS7.o.uv.keep (fun b hb hlt=>o8'.block b hlt (fun e=>by have:=zO e;have:=hb.1;omega)) o8'.size (fun b _ hb=>hb),T8',PS7.o.oth.trans o8',o8'.heap PS7.o.r4 (by omega),o8'.heap PS7.o.r5 (by omega)⟩)
 clear T8' o8' PS7;go_upto_if 27 with fail;go_cut [] (fun wx=>Hid (PairS w T w3.heap.size w6.heap.size 40 ku pu nu us Au cu wx));case first =>
  by_cases hr20:r2=0
  ·subst hr20;obtain⟨k,nm,p,ts,A,c,hq,hv,hz⟩:=PS8.o.x;obtain⟨x0,x1,x2,x3⟩:=cells4t hq;have HQ8:=zH hq;have HV8:=zH hv;have T8:=zH PS8.o.tape;have hB8:=zL hq;have hz39:(Raw.node k nm p ts).size<=31:=hz;have hBT:w6.heap.size≠T:=(by omega);have FAC:Hid (∀w9 w10,Oth T w8.drew w9->Oth T w9 w10->(zk w9 w6.heap.size (zT k nm p A ts c) 51/\zk w10 w6.heap.size (zT k nm p A ts c) 51)/\Oth T w8 w10/\TreeVP (fun b=>w.heap.size<=b/\b≠w.heap.size/\b≠w.heap.size+1/\b≠w6.heap.size) w10 (.node k nm p ts) (.agg (zT k nm p A ts c))):=zH (fun w9 w10 o9 o10=>by
    have o9':Oth T w8 w9:=⟨o9.os,o9.tape,o9.output,o9.size,o9.block⟩;have q9:=o9'.heap HQ8.o hBT;exact⟨⟨q9,o10.heap q9 hBT⟩,o9'.trans o10,HV8.o.keep (fun b hb hlt=>(o9'.trans o10).block b hlt (fun e=>by have:=zO e;have:=hb.1;omega)) (o9'.trans o10).size (fun b _ hb=>hb)⟩)
   clear hq hv hz;go_upto_region 6 with fail;go_region_law (first
    |(go_simp;go_at_call 12;refine(tapeI_next T 99 _ (by omega) (by omega) (T8.o.below (zB _ _).drew)).mono ?_;rintro e w9⟨⟨a,ha,rfl⟩,T9,o9⟩;have q9:=(FAC.o w9 w9 o9 (Oth.refl _ _)).1.1;obtain⟨e0,e1,e2,e3⟩:=cells4t q9)
    |(go_simp;go_at_call 12;refine(tapeI_next T 99 w9 (by omega) (by omega) T9).mono ?_;rintro e w10⟨⟨b,hb,rfl⟩,T10,o10⟩;obtain⟨⟨_,q10⟩,o810,hv10⟩:=FAC.o w9 w10 o9 o10;obtain⟨d0,d1,d2,d3⟩:=cells4t q10)
    |(go_simp;go_at_call 39;refine(s_spoil_any 40 (by omega) _ _ w10 _ _ _ (by omega) hv10).mono ?_;rintro e w11⟨⟨t',v',rfl,hv',hz'⟩,b11⟩;obtain⟨k',n',p',ts',ht'⟩:=Raw.ex t';rw[ht'] at hv' hz';obtain⟨A',c',rfl,hP'⟩:=hv'.openT;obtain⟨s1,s2,s3,s4,g1,g2,g3,g4,⟨y0,y1,y2,y3⟩,⟨f0,f1,f2,f3⟩,hq4,hot⟩:=tput4 ((b11.block _ (zL q10)).trans q10) (zI k') (S n') (zI p') (.slice A' ts'.length c')))
   all_goals
    have HN:=zH (PS8.o.put (n':=40) hTl (by omega) hBx hB8 o810 T10 b11 hot hq4 hv' (by omega));clear T9 o9 q9 T10 o10 q10 o810 hv10 b11 hot hq4 hv' hP' hz';go_wp2_with fail;go_meet;exact HN
  have hr21:((r2:Int) == 0)=false:=by simp;omega
  clear hr20;go_wp2_with fail;go_meet;exact zH (PS8.o.mono (by omega))
 have PS:=hcut;clear PS8 hcut;obtain⟨k,nm,p,ts,A,c,hq,hv,hz⟩:=PS.o.x;obtain⟨x0,x1,x2,x3⟩:=cells4t hq;obtain⟨z0,z1,z2,z3⟩:=cells4t PS.o.u;have hb1:=zL hq;have hb2:=zL PS.o.u;obtain⟨s1,s2,s3,s4,g1,g2,g3,g4,⟨y0,y1,y2,y3⟩,⟨f0,f1,f2,f3⟩,hk4,s5,s6,s7,s8,g5,g6,g7,g8,⟨y4,y5,y6,y7⟩,⟨f4,f5,f6,f7⟩,HQa,HQb,HZ⟩:=pair_ret (n:=40) hTl PS.o.oth PS.o.tape PS.o.r4 PS.o.r5 (hv.keep (fun _ _ _=>rfl) (zN _) (fun b _ hb=>⟨hb.1,hb.2.1,hb.2.2.1⟩)) (PS.o.uv.keep (fun _ _ _=>rfl) (zN _) (fun b _ hb=>⟨hb.1,hb.2.1,hb.2.2.1⟩)) hz (by omega) HPU.o;have hkx:∀j,s4.cell? ⟨w6.heap.size,j,none⟩=wc.cell? ⟨w6.heap.size,j,none⟩:=fun j=>hk4 _ j hb1 (by omega);have hku:∀j,s4.cell? ⟨w3.heap.size,j,none⟩=wc.cell? ⟨w3.heap.size,j,none⟩:=fun j=>hk4 _ j hb2 (by omega);have a0:=(hkx 0).trans x0;have a1:=(hkx 1).trans x1;have a2:=(hkx 2).trans x2;have a3:=(hkx 3).trans x3;have c0':=(hku 0).trans z0;have c1':=(hku 1).trans z1;have c2':=(hku 2).trans z2;have c3':=(hku 3).trans z3;have HZD:=zH HZ.o.drew;clear hkx hku hk4 hq hv hz PS;go_upto_region 7 with fail;go_region_law (fail);all_goals
  go_wp2_with fail;refine Zb (results_terms2 rfl _ _ _ _ _ _ _ _ _ _ _ _ rfl rfl HQa.o HQb.o) ?_;first | exact HZD.o | exact HZ.o
end Go.Proofs.YtadjpadieljjlaaGreat
