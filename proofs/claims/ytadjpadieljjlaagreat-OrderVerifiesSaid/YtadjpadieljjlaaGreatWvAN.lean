/- Parts of the proof that no input makes the law false: SmRow, SmUnder, SmRenP, SmRen, SmSize, SmSorts. -/
import Derived.Test.YtadjpadieljjlaaGreatWvAJ
set_option linter.unusedVariables false
set_option linter.unusedSimpArgs false
set_option maxRecDepth 100000
set_option maxHeartbeats 32000000
namespace Lfc
def headB(k p:Int)(n:List UInt8)(l:Nat):Bool:=(decide (k=3) && tbound n p l 1) || (decide (k=4) && isName n && decide (p=0)) || (decide (k=5) && decide (n=[]))
mutual
def Raw.posB(b:Int):Raw→Bool
 |.node k n p ts=>decide (0≤p) && decide (p≤b) && headB k p n ts.length && Raw.posBs b ts
def Raw.posBs(b:Int):List Raw→Bool
 |[]=>true
 |a :: r=>Raw.posB b a && Raw.posBs b r
end
theorem posBs_app(b:Int)(x y:List Raw):Raw.posBs b (x++y)=(Raw.posBs b x && Raw.posBs b y):=by
 induction x with
 |nil=>simp[Raw.posBs]
 |cons a r ih=>simp only[List.cons_append,Raw.posBs,ih,Bool.and_assoc]
theorem posBs_at(b:Int):∀(ts:List Raw),Raw.posBs b ts=true→∀k(h:k<ts.length),ts[k].posB b=true
 |[],_,k,h=>by simp at h
 |a :: r,hs,k,h=>by
  rw[Raw.posBs,Bool.and_eq_true] at hs;cases k with
  |zero=>exact hs.1
  |succ k=>exact posBs_at b r hs.2 k (by simpa using h)
theorem Raw.ex(t:Raw):∃k n p ts,t=.node k n p ts:=by obtain⟨k,n,p,ts⟩:=t;exact⟨_,_,_,_,rfl⟩
end Lfc
namespace Go.Proofs.YtadjpadieljjlaaGreat
section
open Go.RowKit Go.Maps _root_.Lfc
theorem tset3{W:World}{r:Nat}{v0 v1 v2 v3 v:Value}{t:TypeId}(h:W.heap[r]?=some (.cells #[v0,v1,v2,v3] t (0,0))):(W.setCell ⟨r,3,none⟩ v).heap[r]?=some (.cells #[v0,v1,v2,v] t (0,0)):=by
 simp[World.setCell,zM,h]
theorem oneCellT{k p:Int}{n:List UInt8}{A:Option Addr}{l c:Nat}:∀u∈[Value.int .i64 k,S n,.int .i64 p,.slice A l c],u.oneCell'=true:=by
 intro u hu;simp at hu;rcases hu with rfl | rfl | rfl | rfl <;> rfl
theorem term_infoM:∃i,Tryz.prog.info? 51=some i∧i.zero=some (.agg #[.int .i64 0,S [],.int .i64 0,.slice none 0 0])∧i.size=4∧i.bytes=56:=by
 obtain⟨i0,hi,hz0,hz1,hz2⟩:=info_parts termInfo;exact⟨i0,hi,hz0,hz1,hz2⟩
theorem trm_final{base T r:Nat}{wx w9 w10 wa:World}{v v' k n p a0 a1 a2 a3:Value}{ts:List Raw}{xs:List Value}{t:Raw}(hr:r<base)(hT:T<r)(hb:base≤wx.heap.size)(hwa:wa.heap.size≤r)
  (hR:wx.heap[r]?=some (.cells #[k,n,p,v] 51 (0,0))) (hown:wx.ownsRow base 51 4 v ts.length xs) (hrow:RowP (fun b=>base≤b∧some b≠v.ownBlock) wx ts xs)
  (hTx:Oth T wa wx) (o9:Oth T wx.drew w9) (ht:TreeP (fun b=>wx.drew.heap.size≤b) w9 t a0 a1 a2 a3)
  (hown':w10.ownsRow base 51 4 v' (ts.length+1) (xs++[a0,a1,a2,a3]))
  (hg:(w9.alloc (.cells #[a0,a1,a2,a3] 51)).grownBy w10 v.ownBlock) (hloc:v'.ownBlock=v.ownBlock∨v'.ownBlock=some (w9.heap.size+1)) :
  w10.heap[r]?=some (.cells #[k,n,p,v] 51 (0,0))∧(w10.setCell ⟨r,3,none⟩ v').heap[r]?=some (.cells #[k,n,p,v'] 51 (0,0))∧(w10.setCell ⟨r,3,none⟩ v').ownsRow base 51 4 v' (ts++[t]).length (xs++[a0,a1,a2,a3]) ∧
  RowP (fun b=>base≤b∧some b≠v'.ownBlock) (w10.setCell ⟨r,3,none⟩ v') (ts++[t]) (xs++[a0,a1,a2,a3])∧Oth T wa (w10.setCell ⟨r,3,none⟩ v')∧base≤(w10.setCell ⟨r,3,none⟩ v').heap.size ∧
  (∀b,b<base→b≠r→b≠T→(w10.setCell ⟨r,3,none⟩ v').heap[b]?=wx.heap[b]?)∧(w10.setCell ⟨r,3,none⟩ v').heap[T]?=w9.heap[T]?:=by
 have s9:wx.heap.size≤w9.heap.size:=o9.size;have s10:w9.heap.size+1≤w10.heap.size:=by have:=hg.size;simpa using this
 have hrx:=zL hR;have hown_lt:∀g,v.ownBlock=some g→base≤g∧g<wx.heap.size:=fun g e=>hown.lt g e;have hne:some r≠v.ownBlock:=fun e=>by have:=(hown_lt r e.symm).1;omega
 have hr9:w9.heap[r]?=some (.cells #[k,n,p,v] 51 (0,0)):=o9.heap hR (by omega);have hr10:w10.heap[r]?=some (.cells #[k,n,p,v] 51 (0,0)):=(hg.block r (by simp;omega) hne).trans ((zA _ _ _ (zL hr9)).trans hr9);have hne':v'.ownBlock≠some r:=fun e=>by have:=(hown'.lt r e).1;omega
 have hsz:(w10.setCell ⟨r,3,none⟩ v').heap.size=w10.heap.size:=by simp[World.setCell]
 have key:∀b,b≠r→some b≠v.ownBlock→b<w9.heap.size→(w10.setCell ⟨r,3,none⟩ v').heap[b]?=w9.heap[b]?:=fun b h1 h2 h3=>by
  rw[Below.heap_setCell _ _ _ _ (by show b≠r;omega),hg.block b (by simp;omega) h2,zA _ _ _ h3]
 have hq':∀b,base≤b→some b≠v.ownBlock→b<w9.heap.size→some b≠v'.ownBlock:=fun b _ h2 h3 e=>by
  rcases hloc with h | h
  ·exact h2 (e.trans h)
  have:=zO (e.trans h);omega
 refine⟨hr10,tset3 hr10,?_,?_,?_,by omega,?_,?_⟩
 ·rw[Zq];exact ownsRow_setCell_other hown' hne' _
 ·refine RowP.append (RowP.one ?_) ?_
  ·refine TreeP.keep (fun b hb1 hlt=>?_) (by omega) (fun b hlt hb1=>?_) _ _ _ _ _ ht
   ·have hb1:wx.heap.size≤b:=hb1;exact key b (by omega) (fun e=>by have:=(hown_lt b e.symm).2;omega) hlt
   have hb1:wx.heap.size≤b:=hb1;exact⟨by omega,hq' b (by omega) (fun e=>by have:=(hown_lt b e.symm).2;omega) hlt⟩
  refine RowP.keep (fun b hb1 hlt=>?_) (by omega) (fun b hlt hb1=>⟨hb1.1,hq' b hb1.1 hb1.2 (by omega)⟩) hrow;rw[key b (by have:=hb1.1;omega) hb1.2 (by omega)];exact o9.block b hlt (fun e=>by have:=zO e;have:=hb1.1;omega)
 ·refine Oth.of_new (hTx.trans ((Oth.refl _ _).drew.trans o9)) ⟨?_,?_,?_,by omega,fun b hb1=>?_⟩
  ·exact hg.os
  ·exact hg.tape
  ·exact hg.output
  rw[Below.heap_setCell _ _ _ _ (by show b≠r;omega),hg.block b (by simp;omega) (fun e=>by have:=(hown_lt b e.symm).1;omega),zA _ _ _ (by omega)]
 ·intro b h1 h2 h3;rw[key b h2 (fun e=>by have:=(hown_lt b e.symm).1;omega) (by omega)];exact o9.block b (by show b<wx.heap.size;omega) (fun e=>h3 (zO e))
 exact key T (by omega) (fun e=>by have:=(hown_lt T e.symm).1;omega) (by omega)
theorem trm_parts{base lo:Nat}{W:World}{A:Option Addr}{c:Nat}{ts:List Raw}{xs:List Value}(hlo:lo≤base)(hown:W.ownsRow base 51 4 (.slice A ts.length c) ts.length xs)(hrow:RowP (fun b=>base≤b∧some b≠(Value.slice A ts.length c).ownBlock) W ts xs) :
  TreesAtP (fun b=>lo≤b) W A ts∧ts.length≤c:=by
 rcases hown.2 with⟨h1,h2⟩ | ⟨g,cap,cur,hv,hbg,hg,hnc,_,_,_⟩
 ·exact⟨fun hne=>absurd (Zz h2) hne,by rw[h2];exact Nat.zero_le _⟩
 injection hv with e1 _ e3;subst e1 e3;refine⟨fun _=>⟨g,0,rfl,zL hg,by show lo≤g;omega,?_⟩,hnc⟩;exact(RowP.keep (fun _ _ _=>rfl) (zN _) (fun b _ hb=>by have:=hb.1;show lo≤b;omega) hrow).lie (own_cells hown)
structure MkT(wa:World)(T R base P:Nat)(k:Int)(nm:List UInt8)(p:Int)(ts:List Raw)(A:Option Addr)(c:Nat)(xs:List Value)(wr:World):Prop where
 r:wr.heap[R]?=some (.cells #[.int .i64 k,S nm,.int .i64 p,.slice A ts.length c] 51 (0,0))
 own:wr.ownsRow base 51 4 (.slice A ts.length c) ts.length xs
 row:RowP (fun b=>base≤b∧some b≠(Value.slice A ts.length c).ownBlock) wr ts xs
 oth:Oth T wa wr
 tape:TapeI T wr
 size:base≤wr.heap.size
 few:Raw.sizes ts+ts.length≤ts.length*P
 posB:Raw.posBs 100 ts=true
theorem TapeI.like{T:Nat}{w w':World}(h:TapeI T w)(hk:∀b,b≤T→w'.heap[b]?=w.heap[b]?):TapeI T w':=by
 obtain⟨A,n,c,i,ht,hi,hn,hc⟩:=h.t;refine⟨⟨A,n,c,i,(hk T (zN _)).trans ht,hi,hn,fun hp=>?_⟩⟩;obtain⟨b,o,hA,hbT,hx⟩:=hc hp;refine⟨b,o,hA,hbT,fun k hk2=>?_⟩;obtain⟨x,hx⟩:=hx k hk2;exact⟨x,(World.cell?_of_block (hk b (by omega))).trans hx⟩
def MadeT(w:World)(T P:Nat)(e:Ending)(w':World):Prop :=
 (∃t v,e=.returned v∧TreeVP (fun b=>w.heap.size≤b) w' t v∧t.size+1≤P∧t.posB 100=true)∧TapeI T w'∧Oth T w w'
theorem MkT.step{wa wr w9 w10:World}{T R base P:Nat}{k p k9 p9:Int}{nm n9:List UInt8}{ts ts9:List Raw}{A A9:Option Addr}{c c9:Nat}{xs:List Value}{v':Value}{t9:Raw}(h:MkT wa T R base P k nm p ts A c xs wr)(hTR:T<R)(hRb:R<base)(hwa:wa.heap.size≤R)
  (o9:Oth T wr.drew w9) (T9:TapeI T w9) (hp9:TreeP (fun b=>wr.drew.heap.size≤b) w9 t9 (.int .i64 k9) (S n9) (.int .i64 p9) (.slice A9 ts9.length c9)) (hz9:t9.size+1≤P) (hm9:t9.posB 100=true)
  (hown':w10.ownsRow base 51 4 v' (ts.length+1) (xs++[.int .i64 k9,S n9,.int .i64 p9,.slice A9 ts9.length c9]))
  (hg:(w9.alloc (.cells #[.int .i64 k9,S n9,.int .i64 p9,.slice A9 ts9.length c9] 51)).grownBy w10 (Value.slice A ts.length c).ownBlock) (hloc:v'.ownBlock=(Value.slice A ts.length c).ownBlock∨v'.ownBlock=some (w9.heap.size+1)) :
  w10.heap[R]?=some (.cells #[.int .i64 k,S nm,.int .i64 p,.slice A ts.length c] 51 (0,0)) ∧
  (∀A10 c10,v'=.slice A10 (ts.length+1) c10→MkT wa T R base P k nm p (ts++[t9]) A10 c10 (xs++[.int .i64 k9,S n9,.int .i64 p9,.slice A9 ts9.length c9]) (w10.setCell ⟨R,3,none⟩ v')):=by
 obtain⟨f0,f1,f2,f3,f4,f5,f6,f7⟩:=trm_final hRb hTR h.size hwa h.r h.own h.row h.oth o9 hp9 hown' hg hloc;refine⟨f0,?_⟩;rintro A10 c10 rfl;have el:(ts++[t9]).length=ts.length+1:=by rw[Zq];rfl
 refine⟨by rw[el];exact f1,by rw[el];rw[el] at f2;exact f2,by rw[el];exact f3,f4,T9.like (fun b hb=>?_),f5,?_,?_⟩
 ·by_cases hbT:b=T
  ·rw[hbT];exact f7
  rw[f6 b (by omega) (by omega) hbT];exact(o9.block b (by have:=h.size;show b<wr.heap.size;omega) (fun e=>hbT (zO e))).symm
 ·rw[el,Raw.sizes_app];have h1:=h.few;simp only[Raw.sizes];have h2:(ts.length+1)*P=ts.length*P+P:=Nat.succ_mul _ _;omega
 rw[posBs_app,h.posB];simp only[Raw.posBs,hm9,Bool.and_true]
theorem MkT.done{w wa wr:World}{T R base PP P:Nat}{k p:Int}{nm:List UInt8}{ts:List Raw}{A:Option Addr}{c:Nat}{xs:List Value}(h:MkT wa T R base PP k nm p ts A c xs wr)(hT:T<w.heap.size)(hwa:Oth T w wa)(hq:wa.heap[w.heap.size]?=some (.cells #[.int .i64 0,S [],.int .i64 0,.slice none 0 0] 51 (0,0)))(hR:w.heap.size<R)(hb:R<base)(hp:0≤p∧p≤100)(hn:nm.length≤1000000)(hl:ts.length≤2)(hP:P=2*PP)(hPP:1≤PP)(hh:headB k p nm ts.length=true) :
  ∃s1 s2 s3 s4,wr.setCell ⟨w.heap.size,0,none⟩ (.int .i64 k)=s1∧s1.setCell ⟨w.heap.size,1,none⟩ (S nm)=s2∧s2.setCell ⟨w.heap.size,2,none⟩ (.int .i64 p)=s3∧s3.setCell ⟨w.heap.size,3,none⟩ (.slice A ts.length c)=s4 ∧
   (wr.cell? ⟨w.heap.size,0,none⟩=some (.int .i64 0)∧s1.cell? ⟨w.heap.size,1,none⟩=some (S [])∧s2.cell? ⟨w.heap.size,2,none⟩=some (.int .i64 0)∧s3.cell? ⟨w.heap.size,3,none⟩=some (.slice none 0 0)) ∧
   (wr.frozen? ⟨w.heap.size,0,none⟩=false∧s1.frozen? ⟨w.heap.size,1,none⟩=false∧s2.frozen? ⟨w.heap.size,2,none⟩=false∧s3.frozen? ⟨w.heap.size,3,none⟩=false) ∧
   s4.heap[w.heap.size]?=some (.cells #[.int .i64 k,S nm,.int .i64 p,.slice A ts.length c] 51 (0,0))∧Hid (MadeT w T P (.returned (.agg #[.int .i64 k,S nm,.int .i64 p,.slice A ts.length c])) s4):=by
 have hsb:=h.size;have hpt:=trm_parts (lo:=R) (by omega) h.own h.row;obtain⟨s1,s2,s3,s4,g1,g2,g3,g4,hy,hf,hq4,hot⟩:=tput4 (h.oth.heap hq (show w.heap.size≠T by omega)) (.int .i64 k) (S nm) (.int .i64 p) (.slice A ts.length c);refine⟨s1,s2,s3,s4,g1,g2,g3,g4,hy,hf,hq4,zH ⟨⟨.node k nm p ts,_,rfl,TreeVP.mk hn hpt.2 ?_,?_,?_⟩,h.tape.oth (by omega) hot,?_⟩⟩
 ·refine hpt.1.keep (fun b hb hlt=>?_) hot.size (fun b _ hb=>by have hb:R≤b:=hb;show w.heap.size≤b;omega);have hb:R≤b:=hb;exact hot.block b hlt (fun e=>by have:=zO e;omega)
 ·have h1:=h.few;have hls:=Raw.sizes_len ts;simp only[Raw.size];rcases(show ts.length=0∨ts.length=1∨ts.length=2 by omega) with hl | hl | hl
  ·rw[hl] at h1;omega
  ·rw[hl] at h1;omega
  rw[hl] at h1;omega
 ·simp only[Raw.posB,h.posB,hh,Bool.and_true,Za,Zd];omega
 refine Oth.of_new (hwa.trans h.oth) ⟨hot.os,hot.tape,hot.output,hot.size,fun b hb=>hot.block b (by omega) (fun e=>by have:=zO e;omega)⟩
theorem MkT.start{wa wx wr:World}{T base P:Nat}{k p:Int}{nm:List UInt8}(hTx:Oth T wa wx)(hx:wx.heap.size+1=base)(o:Oth T wx wr)(hq:wr.heap[wx.heap.size]?=some (.cells #[.int .i64 k,S nm,.int .i64 p,.slice none 0 0] 51 (0,0)))(ht:TapeI T wr):MkT wa T wx.heap.size base P k nm p [] none 0 [] wr :=
 ⟨hq,⟨by simp,.inl ⟨rfl,rfl⟩⟩,by rw[RowP],hTx.trans o,ht,by have:=zL hq;omega,by simp[Raw.sizes],by simp[Raw.posBs]⟩
theorem tone{q:Nat→Prop}{W:World}{g:Nat}{t:Raw}{v0 v1 v2 v3:Value}{ty:TypeId}(ht:TreeP q W t v0 v1 v2 v3)(hq:q g)(hg:W.heap[g]?=some (.cells #[v0,v1,v2,v3] ty (0,0))):TreesAtP q W (some ⟨g,0,none⟩) [t]:=fun _ =>
 ⟨g,0,rfl,zL hg,hq,(RowP.one ht).lie (fun j u hj=>by
  rw[Nat.zero_add]
  match j with
  |0=>simp at hj;subst hj;exact zC hg 0
  |1=>simp at hj;subst hj;exact zC hg 1
  |2=>simp at hj;subst hj;exact zC hg 2
  |3=>simp at hj;subst hj;exact zC hg 3
  |j+4=>simp at hj)⟩
theorem made_leaf{w wr:World}{T P:Nat}{k p:Int}{nm:List UInt8}(hT:T<w.heap.size)(ho:Oth T w wr)(ht:TapeI T wr)(hq:wr.heap[w.heap.size]?=some (.cells #[.int .i64 0,S [],.int .i64 0,.slice none 0 0] 51 (0,0)))(hp:0≤p∧p≤100)(hn:nm.length≤1000000)(hP:2≤P)(hh:headB k p nm 0=true) :
  ∃s1 s2 s3 s4,wr.setCell ⟨w.heap.size,0,none⟩ (.int .i64 k)=s1∧s1.setCell ⟨w.heap.size,1,none⟩ (S nm)=s2∧s2.setCell ⟨w.heap.size,2,none⟩ (.int .i64 p)=s3∧s3.setCell ⟨w.heap.size,3,none⟩ (.slice none 0 0)=s4 ∧
   (wr.cell? ⟨w.heap.size,0,none⟩=some (.int .i64 0)∧s1.cell? ⟨w.heap.size,1,none⟩=some (S [])∧s2.cell? ⟨w.heap.size,2,none⟩=some (.int .i64 0)∧s3.cell? ⟨w.heap.size,3,none⟩=some (.slice none 0 0)) ∧
   (wr.frozen? ⟨w.heap.size,0,none⟩=false∧s1.frozen? ⟨w.heap.size,1,none⟩=false∧s2.frozen? ⟨w.heap.size,2,none⟩=false∧s3.frozen? ⟨w.heap.size,3,none⟩=false) ∧
   s4.heap[w.heap.size]?=some (.cells #[.int .i64 k,S nm,.int .i64 p,.slice none 0 0] 51 (0,0))∧Hid (MadeT w T P (.returned (.agg #[.int .i64 k,S nm,.int .i64 p,.slice none 0 0])) s4):=by
 obtain⟨s1,s2,s3,s4,g1,g2,g3,g4,hy,hf,hq4,hot⟩:=tput4 hq (.int .i64 k) (S nm) (.int .i64 p) (.slice none 0 0);refine⟨s1,s2,s3,s4,g1,g2,g3,g4,hy,hf,hq4,zH ⟨⟨.node k nm p [],_,rfl,TreeVP.mk (ts:=[]) hn (Nat.zero_le _) (fun h=>absurd rfl h),?_,?_⟩,ht.oth (by omega) hot,?_⟩⟩
 ·simp only[Raw.size,Raw.sizes];omega
 ·simp only[Raw.posB,Raw.posBs,List.length_nil,hh,Bool.and_true,Za,Zd];omega
 exact Oth.of_new ho ⟨hot.os,hot.tape,hot.output,hot.size,fun b hb=>hot.block b (Zl hb ho.size) (fun e=>by have:=zO e;omega)⟩
theorem made_lam{w wx w2 w3:World}{T P PP:Nat}{k2 p2:Int}{n2:List UInt8}{ts2:List Raw}{A2:Option Addr}{c2:Nat}{t2:Raw}(hT:T<w.heap.size)(ho:Oth T w wx)(hlt:w.heap.size<wx.heap.size)(o2:Oth T wx w2)(b3:Below w2.heap.size w2 w3)(q3:w3.heap[w2.heap.size]?=some (.cells #[.int .i64 k2,S n2,.int .i64 p2,.slice A2 ts2.length c2] 51 (0,0)))
  (ht:TreeP (fun b=>wx.heap.size≤b) w2 t2 (.int .i64 k2) (S n2) (.int .i64 p2) (.slice A2 ts2.length c2)) (T2:TapeI T w2) (hz:t2.size+1≤PP) (hm:t2.posB 100=true) (hq:wx.heap[w.heap.size]?=some (.cells #[.int .i64 0,S [],.int .i64 0,.slice none 0 0] 51 (0,0))) (hP:P=2*PP) :
  ∃s1 s2 s3 s4,w3.setCell ⟨w.heap.size,0,none⟩ (.int .i64 3)=s1∧s1.setCell ⟨w.heap.size,1,none⟩ (S [])=s2∧s2.setCell ⟨w.heap.size,2,none⟩ (.int .i64 0)=s3∧s3.setCell ⟨w.heap.size,3,none⟩ (.slice (some ⟨w2.heap.size,0,none⟩) 1 1)=s4 ∧
   (w3.cell? ⟨w.heap.size,0,none⟩=some (.int .i64 0)∧s1.cell? ⟨w.heap.size,1,none⟩=some (S [])∧s2.cell? ⟨w.heap.size,2,none⟩=some (.int .i64 0)∧s3.cell? ⟨w.heap.size,3,none⟩=some (.slice none 0 0)) ∧
   (w3.frozen? ⟨w.heap.size,0,none⟩=false∧s1.frozen? ⟨w.heap.size,1,none⟩=false∧s2.frozen? ⟨w.heap.size,2,none⟩=false∧s3.frozen? ⟨w.heap.size,3,none⟩=false) ∧
   s4.heap[w.heap.size]?=some (.cells #[.int .i64 3,S [],.int .i64 0,.slice (some ⟨w2.heap.size,0,none⟩) 1 1] 51 (0,0))∧Hid (MadeT w T P (.returned (.agg #[.int .i64 3,S [],.int .i64 0,.slice (some ⟨w2.heap.size,0,none⟩) 1 1])) s4):=by
 have hs2:=o2.size;have hs3:=b3.size;obtain⟨s1,s2,s3,s4,g1,g2,g3,g4,hy,hf,hq4,hot⟩:=tput4 ((b3.block _ (by omega)).trans (o2.heap hq (show w.heap.size≠T by omega))) (.int .i64 3) (S []) (.int .i64 0) (.slice (some ⟨w2.heap.size,0,none⟩) 1 1);have hlt3:=zL q3;refine⟨s1,s2,s3,s4,g1,g2,g3,g4,hy,hf,hq4,zH ⟨⟨.node 3 [] 0 [t2],_,rfl,TreeVP.mk (ts:=[t2]) (by simp) (zN _) ?_,?_,?_⟩,(T2.below b3).oth (by omega) hot,?_⟩⟩
 ·refine tone (TreeP.keep (fun b hb hl=>?_) (zR hs3 hot.size) (fun b _ hb=>by have hb:wx.heap.size≤b:=hb;show w.heap.size≤b;omega) _ _ _ _ _ ht) (by show w.heap.size≤w2.heap.size;omega) (hot.heap q3 (by omega));have hb:wx.heap.size≤b:=hb;exact(hot.block b (by omega) (fun e=>by have:=zO e;omega)).trans (b3.block b hl)
 ·simp only[Raw.size,Raw.sizes];omega
 ·simp only[Raw.posB,Raw.posBs,hm,List.length_cons,List.length_nil];decide
 refine Oth.of_new ((ho.trans o2).of_new (b3.mono (by have:=ho.size;omega))) ⟨hot.os,hot.tape,hot.output,hot.size,fun b hb=>hot.block b (by omega) (fun e=>by have:=zO e;omega)⟩
end
section
open Go.RowKit
theorem sUnder_any(kd ps i:Int)(nm:List UInt8)(A:Option Addr)(l c:Nat)(w:World) :
  Calls Tryz.prog 76 #[.agg #[zI kd,S nm,zI ps,.slice A l c],zI i] w fun e w'=>(∃r:Nat,r<=1/\e=.returned (zI (r:Int)))/\zb w w':=by
 have HB:Hid (zb w (w.alloc (.cells #[zI kd,S nm,zI ps,.slice A l c] 51))):=zH ((zB _ _).alloc (zN _) _);by_cases h3:kd=3
 ·subst h3;go_enter Tryz.func76,Tryz.ntmps76;go_wp2_with fail;go_ret;exact⟨⟨1,by omega,rfl⟩,HB.o⟩
 have g3:(kd == 3)=false:=by simpa using h3
 by_cases h2:kd=2/\i=1
 ·obtain⟨rfl,rfl⟩:=h2;clear h3;go_enter Tryz.func76,Tryz.ntmps76;go_wp2_with fail;go_ret;exact⟨⟨1,by omega,rfl⟩,HB.o⟩
 have h4:(kd == 2)=false\/((kd == 2)=true/\(i == 1)=false):=by
  by_cases e:kd=2
  ·exact .inr ⟨by simp[e],by simpa using fun h=>h2 ⟨e,h⟩⟩
  exact .inl (by simpa using e)
 clear h2 h3;rcases h4 with g2 | ⟨g2,g1⟩;all_goals
  go_enter Tryz.func76,Tryz.ntmps76;go_wp2_with fail;go_ret;exact⟨⟨0,by omega,rfl⟩,HB.o⟩
end
end Go.Proofs.YtadjpadieljjlaaGreat
namespace Lfc
theorem headB_var{p p':Int}{n:List UInt8}{l:Nat}(h:headB 5 p n l=true):headB 5 p' n l=true:=by
 simp[headB] at h ⊢;exact h
end Lfc
namespace Go.Proofs.YtadjpadieljjlaaGreat
section
open Go.RowKit Go.Maps _root_.Lfc
def RenAns(w:World)(n:Nat)(e:Ending)(w':World):Prop :=
 (∃k nm p ts A c b,e=.returned (.tuple #[.agg #[.int .i64 k,S nm,.int .i64 p,.slice A (List.length ts) c],.bool b])∧TreeVP (fun b=>w.heap.size≤b) w' (.node k nm p ts) (.agg #[.int .i64 k,S nm,.int .i64 p,.slice A (List.length ts) c])∧(Raw.node k nm p ts).size≤n∧((b=true→Raw.posB 1048576 (.node k nm p ts)=true)))∧Below w.heap.size w w'
structure RnI(wa:World)(R base:Nat)(k:Int)(nm:List UInt8)(p:Int)(n:Nat)(ts:List Raw)(A:Option Addr)(c:Nat)(xs:List Value)(wr:World):Prop where
 r:wr.heap[R]?=some (.cells #[.int .i64 k,S nm,.int .i64 p,.slice A ts.length c] 51 (0,0))
 own:wr.ownsRow base 51 4 (.slice A ts.length c) ts.length xs
 row:RowP (fun b=>base≤b∧some b≠(Value.slice A ts.length c).ownBlock) wr ts xs
 below:Below R wa wr
 size:base≤wr.heap.size
 few:Raw.sizes ts≤n
 pos:Raw.posBs 1048576 ts=true
theorem RnI.step{wa wr w9 w10:World}{R base n n':Nat}{k p k9 p9:Int}{nm n9:List UInt8}{ts ts9:List Raw}{A A9:Option Addr}{c c9:Nat}{xs:List Value}{v':Value}(h:RnI wa R base k nm p n ts A c xs wr)(hR:0<R)(hRb:R<base)(hwa:wa.heap.size≤R)
  (b9:Below wr.heap.size wr w9) (hp9:TreeP (fun b=>wr.heap.size≤b) w9 (.node k9 n9 p9 ts9) (.int .i64 k9) (S n9) (.int .i64 p9) (.slice A9 ts9.length c9)) (hn:n+(Raw.node k9 n9 p9 ts9).size≤n') (hpo:Raw.posB 1048576 (.node k9 n9 p9 ts9)=true)
  (hown':w10.ownsRow base 51 4 v' (ts.length+1) (xs++[.int .i64 k9,S n9,.int .i64 p9,.slice A9 ts9.length c9]))
  (hg:(w9.alloc (.cells #[.int .i64 k9,S n9,.int .i64 p9,.slice A9 ts9.length c9] 51)).grownBy w10 (Value.slice A ts.length c).ownBlock) (hloc:v'.ownBlock=(Value.slice A ts.length c).ownBlock∨v'.ownBlock=some (w9.heap.size+1)) :
  w10.heap[R]?=some (.cells #[.int .i64 k,S nm,.int .i64 p,.slice A ts.length c] 51 (0,0)) ∧
  (∀A10 c10,v'=.slice A10 (ts.length+1) c10→RnI wa R base k nm p n' (ts++[.node k9 n9 p9 ts9]) A10 c10 (xs++[.int .i64 k9,S n9,.int .i64 p9,.slice A9 ts9.length c9]) (w10.setCell ⟨R,3,none⟩ v')):=by
 have o9:Oth 0 wr.drew w9:=⟨b9.os,b9.tape,b9.output,b9.size,fun j hj _=>b9.block j hj⟩;have hsz:=h.size;obtain⟨f0,f1,f2,f3,f4,f5,f6,f7⟩:=trm_final hRb hR h.size hwa h.r h.own h.row (zE (h.below.mono hwa)) o9 hp9 hown' hg hloc;refine⟨f0,?_⟩;rintro A10 c10 rfl;have el:(ts++[Raw.node k9 n9 p9 ts9]).length=ts.length+1:=by rw[Zq];rfl
 refine⟨by rw[el];exact f1,by rw[el];rw[el] at f2;exact f2,by rw[el];exact f3,⟨f4.os,f4.tape,f4.output,f4.size,fun b hb=>?_⟩,f5,?_,?_⟩
 ·refine Eq.trans ?_ (h.below.block b hb);by_cases hb0:b=0
  ·rw[hb0,f7];exact b9.block 0 (by omega)
  exact f6 b (by omega) (by omega) hb0
 ·rw[Raw.sizes_app];have h1:=h.few;simp only[Raw.sizes];omega
 rw[posBs_app,h.pos];simp only[Raw.posBs,hpo,Bool.and_true]
theorem RnI.start{wa wr:World}{R:Nat}{k p:Int}{nm:List UInt8}(hq:wr.heap[R]?=some (.cells #[.int .i64 k,S nm,.int .i64 p,.slice none 0 0] 51 (0,0)))(hb:Below R wa wr):RnI wa R (R+1) k nm p 0 [] none 0 [] wr :=
 ⟨hq,⟨by simp,.inl ⟨rfl,rfl⟩⟩,by rw[RowP],hb,zL hq,by simp[Raw.sizes],rfl⟩
theorem ren_ret{w w2 wr:World}{G n:Nat}{k p:Int}{nm:List UInt8}{ts:List Raw}{A:Option Addr}{c:Nat}{z0 z1 z2 z3:Value}(b:Bool)(hG:w.heap.size≤G)(hb:Below w.heap.size w wr)(hq:wr.heap[G]?=some (.cells #[z0,z1,z2,z3] 51 (0,0)))(hn:nm.length≤1000000)(hA:TreesAtP (fun b=>G<b) wr A ts∧ts.length≤c)(hsz:Raw.sizes ts+1≤n)(hpo:b=true→Raw.posB 1048576 (.node k nm p ts)=true) :
  ∃s1 s2 s3 s4,wr.setCell ⟨G,0,none⟩ (.int .i64 k)=s1∧s1.setCell ⟨G,1,none⟩ (S nm)=s2∧s2.setCell ⟨G,2,none⟩ (.int .i64 p)=s3∧s3.setCell ⟨G,3,none⟩ (.slice A ts.length c)=s4 ∧
   (wr.cell? ⟨G,0,none⟩=some z0∧s1.cell? ⟨G,1,none⟩=some z1∧s2.cell? ⟨G,2,none⟩=some z2∧s3.cell? ⟨G,3,none⟩=some z3) ∧
   (wr.frozen? ⟨G,0,none⟩=false∧s1.frozen? ⟨G,1,none⟩=false∧s2.frozen? ⟨G,2,none⟩=false∧s3.frozen? ⟨G,3,none⟩=false) ∧
   s4.heap[G]?=some (.cells #[.int .i64 k,S nm,.int .i64 p,.slice A ts.length c] 51 (0,0))∧Hid (RenAns w n (.returned (.tuple #[.agg #[.int .i64 k,S nm,.int .i64 p,.slice A ts.length c],.bool b])) s4):=by
 obtain⟨s1,s2,s3,s4,g1,g2,g3,g4,hy,hf,hq4,hot⟩:=tput4 hq (.int .i64 k) (S nm) (.int .i64 p) (.slice A ts.length c);refine⟨s1,s2,s3,s4,g1,g2,g3,g4,hy,hf,hq4,zH ⟨⟨k,nm,p,ts,A,c,b,rfl,TreeVP.mk hn hA.2 ?_,by rw[Raw.size];exact hsz,hpo⟩,Oth.below hb hot hG hb.size⟩⟩;refine hA.1.keep (fun j hj hlt=>hot.block j hlt (fun e=>by have e:=zO e;have hj:G<j:=hj;omega)) hot.size (fun j _ hj=>by have hj:G<j:=hj;show w.heap.size≤j;omega)
theorem ren_zero{w w2 wr:World}{G n:Nat}(hG:w.heap.size≤G)(hb:Below w.heap.size w wr)(hq:wr.heap[G]?=some (.cells #[.int .i64 0,S [],.int .i64 0,.slice none 0 0] 51 (0,0)))(hn:1≤n) :
  ∃s1 s2 s3 s4,wr.setCell ⟨G,0,none⟩ (.int .i64 0)=s1∧s1.setCell ⟨G,1,none⟩ (S [])=s2∧s2.setCell ⟨G,2,none⟩ (.int .i64 0)=s3∧s3.setCell ⟨G,3,none⟩ (.slice none 0 0)=s4 ∧
   (wr.cell? ⟨G,0,none⟩=some (.int .i64 0)∧s1.cell? ⟨G,1,none⟩=some (S [])∧s2.cell? ⟨G,2,none⟩=some (.int .i64 0)∧s3.cell? ⟨G,3,none⟩=some (.slice none 0 0)) ∧
   (wr.frozen? ⟨G,0,none⟩=false∧s1.frozen? ⟨G,1,none⟩=false∧s2.frozen? ⟨G,2,none⟩=false∧s3.frozen? ⟨G,3,none⟩=false) ∧
   s4.heap[G]?=some (.cells #[.int .i64 0,S [],.int .i64 0,.slice none 0 0] 51 (0,0))∧Hid (RenAns w n (.returned (.tuple #[.agg #[.int .i64 0,S [],.int .i64 0,.slice none 0 0],.bool false])) s4) :=
 ren_ret (w2:=w2) (ts:=[]) false hG hb hq (by simp) ⟨fun h=>absurd rfl h,zN _⟩ (by simp[Raw.sizes];exact hn) (fun h=>by cases h)
def RnX(wr:World)(n:Nat)(s11 s12:Value)(wx:World):Prop:=∃g k nm p ts A c b,s11=.pointer (some ⟨g,0,none⟩)∧s12=.bool b∧wr.heap.size≤g∧wx.heap[g]?=some (.cells #[.int .i64 k,S nm,.int .i64 p,.slice A (List.length ts) c] 51 (0,0)) ∧
 TreeVP (fun b=>wr.heap.size≤b) wx (.node k nm p ts) (.agg #[.int .i64 k,S nm,.int .i64 p,.slice A (List.length ts) c])∧(Raw.node k nm p ts).size≤n∧(b=true→Raw.posB 1048576 (.node k nm p ts)=true)∧Below wr.heap.size wr wx
end
section
open Go.RowKit Go.Maps _root_.Lfc
attribute [local go_sem ↓] Go.wp_at_zero Go.wp_at_succ
theorem sRen_upto(m:Nat)(hmm:m<=1000000):∀(t:Raw)(v:Value)(d:Nat)(zs:List Int)(At:Option Addr)(ct:Nat)(w:World),t.size<=m->t.posB 1048576=true->d+t.size<=1000000->zs.length<=1000000->IntsO w At zs->TreeV w t v ->
  Calls Tryz.prog 83 #[v,.slice At zs.length ct,zI (d:Int)] w (RenAns w t.size):=by
 induction m with
 |zero=>intro t v d zs At ct w h;have:=t.size_pos;omega
 |succ m ih0 =>
  intro t v d zs At ct w hm hpo hdt hzl hzs hv;have HZS:=zH hzs;obtain⟨kd,nm,ps,ts⟩:=t;have hnl:=hv.name_le;obtain⟨A,c,rfl,hc,hA⟩:=hv.open_;have hszE:(Raw.node kd nm ps ts).size=Raw.sizes ts+1:=by rw[Raw.size]
  rw[hszE] at hm hdt ⊢;have hlen:=Raw.sizes_len ts;have IH:=zH (ih0 (by omega));have hpo2:(0<=ps/\ps<=1048576)/\headB kd ps nm ts.length=true/\Raw.posBs 1048576 ts=true:=by
   rw[Raw.posB] at hpo;simp only[Za,Zd] at hpo;exact⟨hpo.1.1,hpo.1.2,hpo.2⟩
  obtain⟨⟨hp0,hp1⟩,hhd,hpos⟩:=hpo2;have HHD:=zH hhd;have HPOS:=zH (posBs_at 1048576 ts hpos);obtain⟨i0,hi,hz0,hz1,hz2⟩:=term_infoM;obtain⟨w1,hw1⟩:∃w1,w.alloc (.cells (zT kd nm ps A ts c) 51)=w1:=⟨_,rfl⟩;obtain⟨w2,hw2⟩:∃w2,w1.alloc (.cells #[zI 0,S [],zI 0,zS] 51)=w2:=⟨_,rfl⟩;obtain⟨w3,hw3⟩:∃w3,w2.alloc (.cells #[zI kd,S nm,zI ps,zS] 51)=w3:=⟨_,rfl⟩;have b1:=zG hw1;have b2:=zG hw2;have b3:=zG hw3;have q1:=zQ hw1;have q2:=zQ hw2;have q3:=zQ hw3;have l1:=zL q1;have l2:=zL q2;have l3:=zL q3;have b12:zb w w2:=b1.trans (b2.mono (by omega));have B12:=zH b12;have Q1:=zH ((b2.block _ l1).trans q1);have Q2:=zH q2;have Q3:=zH q3;have B3:=zH b3;have HA:=zH (hA.below b12);have HZ2:=zH (HZS.o.below b12);obtain⟨x0,x1,x2,x3⟩:=cells4t ((b3.block _ (by omega)).trans Q1.o);have H3:=zH hw3;have hl02:w.heap.size<w2.heap.size:=by omega
  clear hA hv hpo ih0 b1 b2 b3 q1 q2 q3 hzs hw3 hszE hpos b12 hhd;go_enter Tryz.func83,Tryz.ntmps83;go_upto_region 1 with fail;clear hw1 hw2;obtain⟨y0,y1,y2,y3⟩:=cells4t Q1.o;go_upto_region 2 with fail;rw[H3.o];clear y0 y1 y2 y3 H3;have hv6:((kd == 5)=false/\¬(kd=5/\(d:Int)<=ps))\/((kd == 5)=true/\decide (ps≥(d:Int))=false/\¬(kd=5/\(d:Int)<=ps))\/((kd == 5)=true/\decide (ps≥(d:Int))=true/\(kd=5/\(d:Int)<=ps)):=by
   by_cases e:kd=5
   ·by_cases e2:(d:Int)<=ps
    ·exact .inr (.inr ⟨by simp[e],Zt e2,e,e2⟩)
    exact .inr (.inl ⟨by simp[e],Zu e2,fun h=>e2 h.2⟩)
   exact .inl ⟨by simpa using e,fun h=>e h.1⟩
  have HV6:=zH hv6;clear hv6;go_cut [28] (fun s28 wx=>s28=.bool (decide (kd=5/\(d:Int)<=ps))/\wx=w3);case first =>
   rcases HV6.o with⟨g5,h⟩ | ⟨g5,g6,h⟩ | ⟨g5,g6,h⟩;all_goals
    have HH:=zH h;clear h HV6;go_wp2_with fail;go_meet;exact⟨by first | exact(congrArg Value.bool (Zu HH.o)).symm | exact(congrArg Value.bool (Zt HH.o)).symm,rfl⟩
  case rest =>
  obtain⟨rfl,hwc⟩:=hcut;obtain rfl:=hwc.symm;clear HV6 hwc;obtain⟨bv,hbv⟩:∃bv,decide (kd=5/\(d:Int)<=ps)=bv:=⟨_,rfl⟩;have HBV:=zH hbv;rw[hbv];clear hbv;go_upto_if 28 with fail;go_cut [9] (fun s9 wx=>∃p':Int,0<=p'/\p'<=1048576/\Hid (headB kd p' nm ts.length=true)/\Hid (zk wx w2.heap.size #[zI kd,S nm,zI p',zS] 51)/\Hid (zb w2 wx));case first =>
   cases bv;case true =>
    obtain⟨rfl,hdp⟩:=of_decide_eq_true HBV.o;obtain⟨i,rfl⟩:∃i:Nat,ps=(d:Int)+(i:Int):=⟨(ps-d).toNat,by omega⟩;have hge:decide ((d:Int)+(i:Int)≥(d:Int))=true:=Zt (by omega);have hwi:IntKind.i64.wrap ((d:Int)+(i:Int)-(d:Int))=(i:Int):=(by rw[Zi _ (by omega)];omega);have hwm:IntKind.i64.wrap (1048576-(d:Int))=1048576-(d:Int):=Zi _ (by omega);have BAD:Hid (∃s1 s2 s3 s4,w3.setCell ⟨w1.heap.size,0,none⟩ (zI 0)=s1/\s1.setCell ⟨w1.heap.size,1,none⟩ (S [])=s2/\s2.setCell ⟨w1.heap.size,2,none⟩ (zI 0)=s3/\s3.setCell ⟨w1.heap.size,3,none⟩ zS=s4 /\
     (zc w3 w1.heap.size 0 (zI 0)/\zc s1 w1.heap.size 1 (S [])/\zc s2 w1.heap.size 2 (zI 0)/\zc s3 w1.heap.size 3 zS) /\
     (w3.frozen? ⟨w1.heap.size,0,none⟩=false/\s1.frozen? ⟨w1.heap.size,1,none⟩=false/\s2.frozen? ⟨w1.heap.size,2,none⟩=false/\s3.frozen? ⟨w1.heap.size,3,none⟩=false) /\
     zk s4 w1.heap.size #[zI 0,S [],zI 0,zS] 51/\Hid (RenAns w (Raw.sizes ts+1) (.returned (.tuple #[.agg #[zI 0,S [],zI 0,zS],.bool false])) s4)):=zH (by
      exact ren_ret (w2:=w2) (ts:=[]) false (by omega) (B12.o.trans (B3.o.mono (by omega))) ((B3.o.block _ l2).trans Q2.o) (by simp) ⟨fun h=>absurd rfl h,zN _⟩ (by simp[Raw.sizes]) (fun h=>by cases h))
    have HGO:Hid (∀s,Oth w2.heap.size w3 s->zb w2 s):=zH (fun s ho=>Oth.below B3.o ho (zN _) (by omega));by_cases hi1:zs.length<=i
    ·have hgi:decide ((i:Int)≥(zs.length:Int))=true:=Zt (by omega);obtain⟨s1,s2,s3,s4,g1,g2,g3,g4,⟨p0,p1,p2,p3⟩,⟨f0,f1,f2,f3⟩,hq,HZ⟩:=BAD.o;have HQ:=zH hq;clear hq BAD;go_wp2_with fail;refine Zb (results_term2 rfl _ _ _ _ _ _ _ rfl HQ.o) ?_;exact HZ.o
    have hgi:decide ((i:Int)≥(zs.length:Int))=false:=Zu (by omega);obtain⟨bz,oz,rfl,hbz,hxz⟩:=HZ2.o (by intro h;rw[h] at hi1;exact hi1 (Nat.zero_le _));have xz:=(B3.o.cell (p:=⟨bz,oz+i,none⟩) hbz).trans (hxz i (by omega));have hi2:(0:Int)<=(i:Int):=(by omega);have hi3:(i:Int)<(zs.length:Int):=(by omega);generalize zs.getD i 0=zi at *;clear hi1 hxz;by_cases hzi:zi<0
    ·have hgz:decide (zi<0)=true:=Zt (by omega);obtain⟨s1,s2,s3,s4,g1,g2,g3,g4,⟨p0,p1,p2,p3⟩,⟨f0,f1,f2,f3⟩,hq,HZ⟩:=BAD.o;have HQ:=zH hq;clear hq hzi BAD;go_wp2_with fail;refine Zb (results_term2 rfl _ _ _ _ _ _ _ rfl HQ.o) ?_;exact HZ.o
    have hgz:decide (zi<0)=false:=Zu (by omega);by_cases hzm:1048576-(d:Int)<zi
    ·have hgm:decide (zi>1048576-(d:Int))=true:=Zt (by omega);obtain⟨s1,s2,s3,s4,g1,g2,g3,g4,⟨p0,p1,p2,p3⟩,⟨f0,f1,f2,f3⟩,hq,HZ⟩:=BAD.o;have HQ:=zH hq;clear hq hzi hzm BAD;go_wp2_with fail;refine Zb (results_term2 rfl _ _ _ _ _ _ _ rfl HQ.o) ?_;exact HZ.o
    have hgm:decide (zi>1048576-(d:Int))=false:=Zu (by omega);have hwz:IntKind.i64.wrap (zi+(d:Int))=zi+(d:Int):=Zi _ (by omega);obtain⟨s1,hs1⟩:∃s1,w3.setCell ⟨w2.heap.size,2,none⟩ (zI (zi+(d:Int)))=s1:=⟨_,rfl⟩;have y2:=zC Q3.o 2;have f2:=zF Q3.o 2;have QS:Hid (zk s1 w2.heap.size #[zI 5,S nm,zI (zi+(d:Int)),zS] 51):=zH (zU Q3.o hs1);have OS:Hid (Oth w2.heap.size w3 s1):=zH (zV hs1);have hr1:0<=zi+(d:Int):=(by omega);have hr2:zi+(d:Int)<=1048576:=(by omega);clear hzi hzm BAD;go_wp2_with fail;go_meet;exact⟨_,hr1,hr2,zH (headB_var HHD.o),QS,zH (HGO.o _ OS.o)⟩
   case false =>
    clear HBV;go_wp2_with fail;go_meet;exact⟨ps,hp0,hp1,HHD,Q3,B3⟩
  case rest =>
  obtain⟨p',hp2,hp3,HHP,QO,BO⟩:=hcut;have I0:Hid (RnI w2 w2.heap.size (w2.heap.size+1) kd nm p' (Raw.sizes (ts.take 0)) [] none 0 [] wc):=zH (by rw[List.take_zero,Raw.sizes];exact RnI.start QO.o BO.o);clear x0 x1 x2 x3 Q3 B3 QO BO HBV;go_wp2_with fail;go_loopw [10] (fun i wr=>∃(k:Nat)(os:List Raw)(A':Option Addr)(c':Nat)(xs:List Value),k<=ts.length/\i=zI (k:Int)/\os.length=k/\Hid (RnI w2 w2.heap.size (w2.heap.size+1) kd nm p' (Raw.sizes (ts.take k)) os A' c' xs wr)) (fun i _=>ts.length-(intOf i).toNat);case atStart=>exact⟨0,[],none,0,[],by omega,rfl,rfl,I0⟩
  obtain⟨k,os,A',c',xs,hk,rfl,hol,HI⟩:=hrel;clear I0;have hb2r:=HI.o.below;obtain⟨x0,x1,x2,x3⟩:=cells4t ((hb2r.block _ hl02).trans Q1.o);have hle:=Raw.sizes_len ts;have hsr:=hb2r.size;have HBR:=zH hb2r;clear hb2r;by_cases hlt:k<ts.length
  ·obtain⟨b,o,k1,n1,p1,us,B1,c1,rfl,hb,ht,d0,d1,d2,d3,hcu,hB1,hT⟩:=(HA.o.below HBR.o).at_ hlt;have hk0:=zP k;have hk1:(k:Int)<(ts.length:Int):=(by omega);have hmem:=Raw.sizes_mem ts ts[k] (Ze _);have hstk:Raw.sizes (ts.take (k+1))=Raw.sizes (ts.take k)+ts[k].size:=(by rw[Zm hlt,Raw.sizes_app];simp[Raw.sizes]);have HSTK:=zH hstk;have hlw:w.heap.size<wr.heap.size:=(by omega);have SC:Hid (∀W,zb wr W->(zc W w.heap.size 0 (zI kd)/\zc W w.heap.size 1 (S nm)/\zc W w.heap.size 2 (zI ps)/\zc W w.heap.size 3 (.slice (some ⟨b,o,none⟩) ts.length c))/\(zc W b (o+k*4) (zI k1)/\zc W b (o+k*4+1) (S n1)/\zc W b (o+k*4+2) (zI p1)/\zc W b (o+k*4+3) (.slice B1 us.length c1))):=zH (fun W hw=>⟨cells4t ((hw.block _ hlw).trans ((HBR.o.block _ hl02).trans Q1.o)),(hw.cell (p:=⟨b,o+k*4,none⟩) hb).trans d0,(hw.cell (p:=⟨b,o+k*4+1,none⟩) hb).trans d1,(hw.cell (p:=⟨b,o+k*4+2,none⟩) hb).trans d2,(hw.cell (p:=⟨b,o+k*4+3,none⟩) hb).trans d3⟩);have HT:=zH hT;have CU:=zH (fun W=>sUnder_any kd ps (k:Int) nm (some ⟨b,o,none⟩) ts.length c W);have HPK:=zH (HPOS.o k hlt);have CR:=zH (fun W (hw:zb wr W) (dd:Nat) (hd:dd<=d+1)=>IH.o ts[k] _ dd zs At ct W (by omega) HPK.o (by omega) hzl ((HZ2.o.below HBR.o).below hw) (HT.o.below hw));have G0:zb wr wr.drew:=(zB _ _).drew;have HOL:=zH hol;clear hB1 ht hT d0 d1 d2 d3 hstk hmem hol hle;go_upto_region 10 with fail;clear x0 x1 x2 x3;go_cut [11,12] (fun s11 s12 wx=>Hid (RnX wr ts[k].size s11 s12 wx));case first =>
    refine wp_region_held_drew (S:=fun W=>(zc W w.heap.size 0 (zI kd)/\zc W w.heap.size 1 (S nm)/\zc W w.heap.size 2 (zI ps)/\zc W w.heap.size 3 (.slice (some ⟨b,o,none⟩) ts.length c))/\(zc W b (o+k*4) (zI k1)/\zc W b (o+k*4+1) (S n1)/\zc W b (o+k*4+2) (zI p1)/\zc W b (o+k*4+3) (.slice B1 us.length c1))) (by kernel_rfl) ?_ (fun hH=>?_)
    ·exact SC.o _ G0
    refine tk 0 ?_;refine tk 1 ?_;refine tk 2 ?_;refine tk 3 ?_;refine tk 4 ?_;refine tk 5 ?_;refine tk 6 ?_;refine tk 7 ?_;refine tk 8 ?_;refine rd2 9 15 (fun K hK=>?_) (fun K hK=>?_)
    ·go_simp;go_at_call 76;refine(CU.o _).mono ?_;rintro e w5⟨⟨r,hr,rfl⟩,b5'⟩;have b5:=(G0).trans (b5'.mono (G0).size);have hdr:IntKind.i64.wrap ((d:Int)+(r:Int))=((d+r:Nat):Int):=(by rw[Zi _ (by omega)];omega);refine hK.out _ _ ?_ (fun hH=>?_)
     ·(try dsimp only)
      exact SC.o _ b5
     clear hK K;refine nrm ?_;refine tk 10 ?_;refine rd2 11 15 (fun K hK=>?_) (fun K hK=>?_)
     ·go_simp;go_at_call 83;refine(CR.o _ (b5) (d+r) (by omega)).mono ?_;rintro e w6⟨⟨k9,n9,p9,ts9,A9,c9,b9,rfl,hv9,hz9,hq9⟩,b6'⟩;have b6:=(b5).trans (b6'.mono (b5).size);refine hK.out _ _ ?_ (fun hH=>?_)
      ·(try dsimp only)
       exact SC.o _ b6
      clear hK K;refine nrm ?_;refine tk 12 ?_;refine tk 13 ?_;refine tk 14 ?_;have bA:zb wr (w6.alloc (.cells #[zI 0,S [],zI 0,zS] 51)):=b6.alloc b6.size _;have bN:zb wr (w6.alloc (.cells (zT k9 n9 p9 A9 ts9 c9) 51)):=b6.alloc b6.size _;refine rd1 15 (fun K hK=>?_);go_simp;refine hK.out _ _ ?_ (fun hH=>?_)
      ·(try dsimp only)
       exact SC.o _ bA
      clear hK K;refine nrm ?_;have HR:Hid (RnX wr ts[k].size (.pointer (some ⟨w6.heap.size,0,none⟩)) (.bool b9) (w6.alloc (.cells (zT k9 n9 p9 A9 ts9 c9) 51))):=zH ⟨w6.heap.size,k9,n9,p9,ts9,A9,c9,b9,rfl,rfl,b6.size,zW _ _,hv9.keep (fun j _ hlt=>zA _ _ _ hlt) (by simp) (fun j _ hj=>zR b5.size hj),hz9,hq9,bN⟩;clear hv9;refine rd1 16 (fun K hK=>?_);go_simp;refine hK.out _ _ ?_ (fun hH=>?_)
      ·(try dsimp only)
       exact SC.o _ bN
      clear hK K;refine nrm ?_;refine tk 17 ?_;refine Zw ?_ _;go_wp2_with fail;go_meet;exact HR
     have bA:zb wr (w5.alloc (.cells #[zI 0,S [],zI 0,zS] 51)):=b5.alloc b5.size _;have hsA:(w5.alloc (.cells #[zI 0,S [],zI 0,zS] 51)).heap.size=w5.heap.size+1:=(by simp);have hgs:wr.heap.size<=w5.heap.size:=b5.size;go_simp;refine hK.out _ _ ?_ (fun hH=>?_)
     ·(try dsimp only)
      exact SC.o _ bA
     clear hK K;refine nrm ?_;refine rd1 11 (fun K hK=>?_);go_simp;go_at_call 83;refine(CR.o _ (bA) (d+r) (by omega)).mono ?_;rintro e w6⟨⟨k9,n9,p9,ts9,A9,c9,b9,rfl,hv9,hz9,hq9⟩,b6'⟩;have b6:=(bA).trans (b6'.mono (bA).size);refine hK.out _ _ ?_ (fun hH=>?_)
     ·(try dsimp only)
      exact SC.o _ b6
     clear hK K;refine nrm ?_;have hjs:∀j,(w5.alloc (.cells #[zI 0,S [],zI 0,zS] 51)).heap.size<=j->w5.heap.size<j/\wr.heap.size<=j:=fun j hj=>(by rw[hsA] at hj;omega);refine tk 12 ?_;refine tk 13 ?_;refine tk 14 ?_;obtain⟨s1,s2,s3,s4,g1,g2,g3,g4,⟨y0,y1,y2,y3⟩,⟨f0,f1,f2,f3⟩,hq,hot⟩:=tput4 ((b6'.block _ (by rw[hsA];omega)).trans (zW w5 _)) (zI k9) (S n9) (zI p9) (.slice A9 ts9.length c9);have BS:=zH (Oth.below b6 hot hgs b6.size);have HR:Hid (RnX wr ts[k].size (.pointer (some ⟨w5.heap.size,0,none⟩)) (.bool b9) s4):=zH ⟨w5.heap.size,k9,n9,p9,ts9,A9,c9,b9,rfl,rfl,hgs,hq,hv9.keep (fun j hj hlt=>hot.block j hlt (fun e=>by have e:=zO e;have hj:=hjs j hj;omega)) hot.size (fun j _ hj=>by have hj:=hjs j hj;omega),hz9,hq9,BS.o⟩;clear hq hot hv9;refine rd1 16 (fun K hK=>?_);go_simp;refine hK.out _ _ ?_ (fun hH=>?_)
     ·(try dsimp only)
      exact SC.o _ BS.o
     clear hK K;refine nrm ?_;refine tk 17 ?_;refine Zw ?_ _;go_wp2_with fail;go_meet;exact HR
    have bA:zb wr (wr.drew.alloc (.cells #[zI 0,S [],zI 0,zS] 51)):=G0.alloc G0.size _;have hsA:(wr.drew.alloc (.cells #[zI 0,S [],zI 0,zS] 51)).heap.size=wr.heap.size+1:=(by simp);have hgs:wr.heap.size<=wr.heap.size:=zN _;go_simp;refine hK.out _ _ ?_ (fun hH=>?_)
    ·(try dsimp only)
     exact SC.o _ bA
    clear hK K;refine nrm ?_;refine rd1 9 (fun K hK=>?_);go_simp;go_at_call 76;refine(CU.o _).mono ?_;rintro e w5⟨⟨r,hr,rfl⟩,b5'⟩;have b5:=(bA).trans (b5'.mono (bA).size);have hdr:IntKind.i64.wrap ((d:Int)+(r:Int))=((d+r:Nat):Int):=(by rw[Zi _ (by omega)];omega);refine hK.out _ _ ?_ (fun hH=>?_)
    ·(try dsimp only)
     exact SC.o _ b5
    clear hK K;refine nrm ?_;refine tk 10 ?_;refine rd1 11 (fun K hK=>?_);go_simp;go_at_call 83;refine(CR.o _ (b5) (d+r) (by omega)).mono ?_;rintro e w6⟨⟨k9,n9,p9,ts9,A9,c9,b9,rfl,hv9,hz9,hq9⟩,b6'⟩;have b6:=(b5).trans (b6'.mono (b5).size);refine hK.out _ _ ?_ (fun hH=>?_)
    ·(try dsimp only)
     exact SC.o _ b6
    clear hK K;refine nrm ?_;have hs5:=b5'.size;simp at hs5;have hjs:∀j,w5.heap.size<=j->wr.heap.size<j/\wr.heap.size<=j:=fun j hj=>(by omega);refine tk 12 ?_;refine tk 13 ?_;refine tk 14 ?_;obtain⟨s1,s2,s3,s4,g1,g2,g3,g4,⟨y0,y1,y2,y3⟩,⟨f0,f1,f2,f3⟩,hq,hot⟩:=tput4 ((b6'.block _ (by omega)).trans ((b5'.block wr.heap.size (by simp)).trans (zW wr _))) (zI k9) (S n9) (zI p9) (.slice A9 ts9.length c9);have BS:=zH (Oth.below b6 hot hgs b6.size);have HR:Hid (RnX wr ts[k].size (.pointer (some ⟨wr.heap.size,0,none⟩)) (.bool b9) s4):=zH ⟨wr.heap.size,k9,n9,p9,ts9,A9,c9,b9,rfl,rfl,hgs,hq,hv9.keep (fun j hj hlt=>hot.block j hlt (fun e=>by have e:=zO e;have hj:=hjs j hj;omega)) hot.size (fun j _ hj=>by have hj:=hjs j hj;omega),hz9,hq9,BS.o⟩;clear hq hot hv9;refine rd1 16 (fun K hK=>?_);go_simp;refine hK.out _ _ ?_ (fun hH=>?_)
    ·(try dsimp only)
     exact SC.o _ BS.o
    clear hK K;refine nrm ?_;refine tk 17 ?_;refine Zw ?_ _;go_wp2_with fail;go_meet;exact HR
   obtain⟨g,k9,n9,p9,ts9,A9,c9,b9,rfl,rfl,hgr,hqg,hv9,hz9,hq9,bx⟩:=hcut.o;clear hcut CU CR G0;have hlw2:w.heap.size<wc.heap.size:=Zl hlw bx.size;have hxr:=bx.size;obtain⟨u0,u1,u2,u3⟩:=cells4t hqg;cases b9;case false =>
    have hb2:zb w wc:=B12.o.trans ((HBR.o.mono (by omega)).trans (bx.mono (by omega)));obtain⟨s1,s2,s3,s4,g1,g2,g3,g4,⟨y0,y1,y2,y3⟩,⟨f0,f1,f2,f3⟩,hq,HZ⟩:=ren_zero (w:=w) (w2:=w2) (n:=Raw.sizes ts+1) (show w.heap.size<=w1.heap.size by omega) hb2 ((bx.block _ (by omega)).trans ((HBR.o.block _ (by omega)).trans Q2.o)) (by omega);have HQ:=zH hq;clear hq hb2 hqg hv9 bx u0 u1 u2 u3 HI;go_wp2_with fail;refine Zb (results_term2 rfl _ _ _ _ _ _ _ rfl HQ.o) ?_;exact HZ.o
   case true =>
    obtain⟨lo,hlo⟩:∃lo,os.length=lo:=⟨_,rfl⟩;have HLK:Hid (lo=k):=zH (by rw[<-hlo];exact HOL.o);have HR:=zH ((bx.block _ (by have:=HI.o.size;omega)).trans HI.o.r);have HOWN:=zH HI.o.own;have hlob:lo<=1000000:=(by have:=HLK.o;omega);have hlm:lo+1<=maxLen:=(by unfold maxLen;omega);have hl56:(lo+1)*56<=140737488355328:=(by omega);have HOW2:Hid (wc.ownsRow (w2.heap.size+1) 51 4 (.slice A' lo c') lo xs):=zH (by rw[<-hlo];exact HI.o.own.kept (zE bx:Oth 0 wr wc) (Or.inr (fun e=>by have:=(HI.o.own.lt _ e).1;omega)));have HV9:=zH hv9;have HX:=zJ hz9 (hq9 rfl);have BX:=zH bx;have hrs:=HI.o.size;have yx:zc wc w2.heap.size 3 (.slice A' lo c'):=(by rw[<-hlo];exact zC HR.o 3);have HLO:=zH hlo;have hbz:w2.heap.size+1<=wc.heap.size:=(by omega);have h0R:0<w2.heap.size:=(by omega);clear hqg hv9 hz9 hq9 bx SC HT HPK hlo;go_wp2_with (at_builtin;refine wpList_append_own_at _ rfl _ _ 27 rfl (w2.heap.size+1) 51 i0 (.agg #[zI 0,S [],zI 0,zS]) 4 56 Tryz.underlying27 hi hz0 hz1 hz2 rfl (by decide) _ _ _ rfl (HOW2.o.alloc _) ⟨wc.heap.size,0,none⟩ 1 1 [zI k9,S n9,zI p9,.slice A9 ts9.length c9] rfl rfl (fun jj v hj=>ocells_new wc _ rfl [zI k9,S n9,zI p9,.slice A9 ts9.length c9] 51 jj v hj) oneCellT hlm hl56 (oalloc_le hbz) ?_);intro v' w10 hown10 hg10 _ hloc10;obtain⟨A10,c10,rfl⟩:=oform hown10;obtain⟨_,_,_,_,e9,hP9⟩:=HV9.o;cases e9;obtain⟨hr10,hfin⟩:=HI.o.step (n':=Raw.sizes (ts.take (k+1))) h0R (Nat.lt_succ_self _) (zN _) BX.o hP9 (by have h1:=HSTK.o;have h2:=HX.o.1;omega) HX.o.2 (by rw[HLO.o];exact hown10) (by rw[HLO.o];exact hg10) (by rw[HLO.o];exact hloc10);rw[HLO.o] at hr10 hfin;have HN:=zH (hfin A10 c10 rfl);have HL:Hid ((os++[Raw.node k9 n9 p9 ts9]).length=k+1):=zH (by rw[Zq,HLO.o,HLK.o];rfl);have y10:=(zC hr10 3:zc w10 w2.heap.size 3 (.slice A' lo c'));have f10:=zF hr10 3;clear hr10 hfin hown10 hg10 hloc10 hP9 HV9;go_wp2_with fail;go_roundw;case rel=>exact⟨k+1,os++[Raw.node k9 n9 p9 ts9],A10,c10,_,by omega,by go_num,HL.o,HN⟩
    case measure=>simp[intOf];omega
  obtain rfl:k=ts.length:=by omega
  obtain⟨u0,u1,u2,u3⟩:=cells4t HI.o.r;have hpt:=trm_parts (lo:=w1.heap.size+1) (by omega) HI.o.own HI.o.row;have hfe:=HI.o.few;rw[List.take_length] at hfe;obtain⟨s1,s2,s3,s4,g1,g2,g3,g4,⟨y0,y1,y2,y3⟩,⟨f0,f1,f2,f3⟩,hq,HZ⟩:=ren_ret (w:=w) (w2:=w2) (k:=kd) (p:=p') (nm:=nm) (n:=Raw.sizes ts+1) true (show w.heap.size<=w1.heap.size by omega) (B12.o.trans (HBR.o.mono (by omega))) ((HBR.o.block _ (by omega)).trans Q2.o) hnl hpt (by omega) (fun _=>by rw[Raw.posB,HI.o.pos,hol,HHP.o];simp;omega);have HQ:=zH hq;clear hq hpt hfe HI hol;go_wp2_with fail;refine Zb (results_term2 rfl _ _ _ _ _ _ _ rfl HQ.o) ?_;exact HZ.o
end
section
open Go.RowKit _root_.Lfc
theorem s_sizes_take(ts:List Raw)(k:Nat)(h:k<ts.length):Raw.sizes (ts.take (k+1))=Raw.sizes (ts.take k)+ts[k].size:=by
 rw[Zm h,Raw.sizes_app];simp[Raw.sizes]
theorem s_depths_take(ts:List Raw)(k:Nat)(h:k<ts.length):Raw.depths (ts.take (k+1))=max (Raw.depths (ts.take k)) ts[k].depth:=by
 rw[Zm h,Raw.depths_app];simp[Raw.depths]
theorem s_sizes_take_le(ts:List Raw)(k:Nat):Raw.sizes (ts.take k)≤Raw.sizes ts:=by
 have:Raw.sizes ts=Raw.sizes (ts.take k)+Raw.sizes (ts.drop k):=by rw[←Raw.sizes_app,List.take_append_drop]
 omega
theorem s_depths_le(l:List Raw):Raw.depths l≤Raw.sizes l:=by
 induction l with
 |nil=>simp[Raw.depths,Raw.sizes]
 |cons a r ih=>have:=Raw.depth_le_size _ a (zN _);simp only[Raw.depths,Raw.sizes];omega
theorem sSize_any(m:Nat):∀(t:Raw)(v:Value)(w:World),t.size≤m→t.size≤1000000000→TreeV w t v →
  Calls Tryz.prog 21 #[v] w fun e w'=>e=.returned (.int .i64 (t.size:Int))∧Below w.heap.size w w':=by
 induction m with
 |zero=>intro t v w h _ _;have:=t.size_pos;omega
 |succ m ih =>
  intro t v w hm hmax hv;obtain⟨kd,nm,ps,ts⟩:=t;obtain⟨A,c,rfl,hc,hA⟩:=hv.open_;simp only[Raw.size] at hm hmax;simp only[Raw.size];have hlen:=Raw.sizes_len ts;have IH:=zH ih;obtain⟨w0,hw0⟩:∃w0,w.alloc (.cells #[.int .i64 kd,S nm,.int .i64 ps,.slice A ts.length c] 51)=w0:=⟨_,rfl⟩;have b0:=zG hw0;have s0:w.heap.size<w0.heap.size:=by rw[←hw0];simp
  have hbox:w0.cell? ⟨w.heap.size,3,none⟩=some (.slice A ts.length c):=by rw[←hw0];simp[World.cell?_alloc_new]
  have HA:=zH (hA.below b0);have HB:=zH hbox;clear ih hA hv hbox;go_enter Tryz.func21,Tryz.ntmps21;go_wp2_with fail;generalize hG:w.heap.size=G at *;go_loopw [3,4] (fun n i wr=>∃k:Nat,k≤ts.length∧i=.int .i64 k∧n=.int .i64 ((Raw.sizes (ts.take k)+1:Nat):Int)∧Below w0.heap.size w0 wr) (fun _ i _=>ts.length-(intOf i).toNat);case atStart=>exact⟨0,by omega,rfl,by simp[Raw.sizes],by first | exact zB _ _ | (rw[hw0];exact zB _ _)⟩
  have HGG:=zH hG;clear hw0 hG;obtain⟨k,hk,rfl,rfl,hbw⟩:=hrel;have hbx:wr.cell? ⟨G,3,none⟩=some (.slice A ts.length c):=(hbw.cell (p:=⟨G,3,none⟩) s0).trans HB.out;have hle3:=s_sizes_take_le ts k;by_cases hlt:k<ts.length
  ·obtain⟨b,o,k1,n1,p1,us,B,c1,rfl,hb,ht,c0',c1',c2',c3',hcu,hB,hT⟩:=(HA.out.below hbw).at_ hlt;have hst:=s_sizes_take ts k hlt;have hle2:=s_sizes_take_le ts (k+1);have hmem:=Raw.sizes_mem ts ts[k] (Ze _);have HS:=zH hst;clear hB ht;generalize hZ:ts[k].size=z at *;generalize hY:Raw.sizes (ts.take k)=y at *;have HZ:=zH hZ;clear hZ hst hY;go_wp2_with fail;refine(IH.out ts[k] _ _ (by rw[HZ.out];omega) (by rw[HZ.out];omega) hT).mono ?_;rintro e w1⟨rfl,hb1⟩;rw[HZ.out];have hyz:y+z≤Raw.sizes ts:=(by have:=HS.out;omega);go_wp2_with fail;go_roundw;case rel=>exact⟨k+1,by omega,by go_num,by rw[HS.out];go_num,hbw.trans (hb1.mono hbw.size)⟩
   case measure=>simp[intOf];omega
  have hkl:k=ts.length:=by omega
  go_wp2_with fail;go_ret;exact⟨ret_int (by rw[hkl,List.take_length]),by rw[HGG.out];exact b0.trans (hbw.mono (Nat.le_of_lt s0))⟩
theorem sDepth_any(m:Nat):∀(t:Raw)(v:Value)(w:World),t.size≤m→t.size≤1000000000→TreeV w t v →
  Calls Tryz.prog 42 #[v] w fun e w'=>e=.returned (.int .i64 (t.depth:Int))∧Below w.heap.size w w':=by
 induction m with
 |zero=>intro t v w h _ _;have:=t.size_pos;omega
 |succ m ih =>
  intro t v w hm hmax hv;obtain⟨kd,nm,ps,ts⟩:=t;obtain⟨A,c,rfl,hc,hA⟩:=hv.open_;simp only[Raw.size] at hm hmax;simp only[Raw.depth];have hlen:=Raw.sizes_len ts;have IH:=zH ih;obtain⟨w0,hw0⟩:∃w0,w.alloc (.cells #[.int .i64 kd,S nm,.int .i64 ps,.slice A ts.length c] 51)=w0:=⟨_,rfl⟩;have b0:=zG hw0;have s0:w.heap.size<w0.heap.size:=by rw[←hw0];simp
  have hbox:w0.cell? ⟨w.heap.size,3,none⟩=some (.slice A ts.length c):=by rw[←hw0];simp[World.cell?_alloc_new]
  have HA:=zH (hA.below b0);have HB:=zH hbox;clear ih hA hv hbox;go_enter Tryz.func42,Tryz.ntmps42;go_wp2_with fail;generalize hG:w.heap.size=G at *;go_loopw [3,4] (fun n i wr=>∃k:Nat,k≤ts.length∧i=.int .i64 k∧n=.int .i64 ((Raw.depths (ts.take k):Nat):Int)∧Below w0.heap.size w0 wr) (fun _ i _=>ts.length-(intOf i).toNat);case atStart=>exact⟨0,by omega,rfl,by simp[Raw.depths],by first | exact zB _ _ | (rw[hw0];exact zB _ _)⟩
  have HGG:=zH hG;clear hw0 hG;obtain⟨k,hk,rfl,rfl,hbw⟩:=hrel;have hbx:wr.cell? ⟨G,3,none⟩=some (.slice A ts.length c):=(hbw.cell (p:=⟨G,3,none⟩) s0).trans HB.out;have hle3:=s_sizes_take_le ts k;have hle:=s_depths_le (ts.take k);by_cases hlt:k<ts.length
  ·obtain⟨b,o,k1,n1,p1,us,B,c1,rfl,hb,ht,c0',c1',c2',c3',hcu,hB,hT⟩:=(HA.out.below hbw).at_ hlt;have hst:=s_depths_take ts k hlt;have hle2:=s_sizes_take_le ts (k+1);have hmem:=Raw.sizes_mem ts ts[k] (Ze _);have hdz:=Raw.depth_le_size _ ts[k] (zN _);have HS:=zH hst;clear hB ht;generalize hZ:ts[k].depth=z at *;generalize hY:Raw.depths (ts.take k)=y at *;have HZ:=zH hZ;clear hZ hst hY;go_wp2_with fail;refine(IH.out ts[k] _ _ (by omega) (by omega) hT).mono ?_;rintro e w1⟨rfl,hb1⟩;rw[HZ.out];go_wp2_with fail;go_roundw;case rel=>exact⟨k+1,by omega,by go_num,by rw[HS.out];congr 1;omega,hbw.trans (hb1.mono hbw.size)⟩
   case measure=>simp[intOf];omega
  have hkl:k=ts.length:=by omega
  have hd:=s_depths_le ts;go_wp2_with fail;go_ret;exact⟨ret_int (by omega),by rw[HGG.out];exact b0.trans (hbw.mono (Nat.le_of_lt s0))⟩
def SortsPost(w:World)(e:Ending)(w':World):Prop:=(∃r:Nat,r<8∧e=.returned (.int .i64 (r:Int)))∧Below w.heap.size w w'
theorem sorts_ret{w w':World}{r:Nat}(h:r<8)(hb:Below w.heap.size w w'):SortsPost w (.returned (.int .i64 (r:Int))) w':=⟨⟨r,h,rfl⟩,hb⟩
theorem and_lt{r:Nat}(h:r<8)(m:Int)(hm:m=1∨m=2∨m=6):∃s:Nat,s<8∧bits BinOp.and IntKind.i64 (r:Int) m=(s:Int):=by
 rcases(show r=0∨r=1∨r=2∨r=3∨r=4∨r=5∨r=6∨r=7 by omega) with rfl | rfl | rfl | rfl | rfl | rfl | rfl | rfl <;> rcases hm with rfl | rfl | rfl;all_goals first | exact⟨0,by omega,by decide⟩ | exact⟨1,by omega,by decide⟩ | exact⟨2,by omega,by decide⟩ | exact⟨4,by omega,by decide⟩ | exact⟨6,by omega,by decide⟩
theorem sSorts_upto(m:Nat)(hmm:m<=1000000):∀(t:Raw)(v:Value)(w:World),t.size<=m->TreeV w t v ->
  Calls Tryz.prog 74 #[v] w (SortsPost w):=by
 induction m with
 |zero=>intro t v w h _;have:=t.size_pos;omega
 |succ m ih0 =>
  intro t v w hm hv;obtain⟨kd,nm,ps,ts⟩:=t;have hnl:=hv.name_le;obtain⟨A,c,rfl,hc,hA⟩:=hv.open_;simp only[Raw.size] at hm;have hlen:=Raw.sizes_len ts;have IH:=zH (ih0 (by omega));obtain⟨w0,hw0⟩:∃w0,w.alloc (.cells (zT kd nm ps A ts c) 51)=w0:=⟨_,rfl⟩;have b0:=zG hw0;have q0:=zQ hw0;have s0:=zL q0;obtain⟨x0,x1,x2,x3⟩:=cells4t q0;have HA:=zH (hA.below b0);have B0:=zH b0;have Q0:=zH q0;have CN:=zH (fun W=>rIsName_any nm W (by omega));clear ih0 hA hv b0 q0;go_enter Tryz.func74,Tryz.ntmps74;go_upto_block 0 with fail;clear hw0;go_cut [0,3,4,5] (fun s0 s3 s4 s5 wx=>∃b3 b4 b5:Bool,s3=.bool b3/\s4=.bool b4/\s5=.bool b5/\zb w0 wx/\Hid (b5=true->kd=2->ts.length=2)/\Hid (b5=true->kd=3->ts.length=1));case first =>
   have CN:=CN.o;generalize isName nm=q at *;have CN:=zH CN;by_cases k2:kd=2
   ·subst k2;obtain⟨b0_,hb0_⟩:∃b,(nm == [])=b:=⟨_,rfl⟩;obtain⟨b1_,hb1_⟩:∃b,(nm == [95])=b:=⟨_,rfl⟩;by_cases hl:ts.length=2
    ·have HL:=zH hl;have g2:((ts.length:Int) == 2)=true:=by simp;omega
     skip
     clear hl;go_wp2_with (go_at_call 104;refine(CN.o _).mono ?_;rintro e w1⟨rfl,rfl⟩);all_goals go_meet
     all_goals exact⟨_,_,_,rfl,rfl,rfl,zB _ _,zH (fun _ _=>HL.o),zH (fun _ e=>by cases e)⟩
    have g2:((ts.length:Int) == 2)=false:=(by simp;omega);clear hl;obtain⟨l1,hl1⟩:∃l1,((ts.length:Int) == 1)=l1:=⟨_,rfl⟩;go_wp2_with (go_at_call 104;refine(CN.o _).mono ?_;rintro e w1⟨rfl,rfl⟩);all_goals go_meet
    all_goals exact⟨_,_,_,rfl,rfl,rfl,zB _ _,zH (fun e _=>absurd e (by decide)),zH (fun _ e=>by cases e)⟩
   by_cases k3:kd=3
   ·subst k3;obtain⟨b0_,hb0_⟩:∃b,(nm == [])=b:=⟨_,rfl⟩;obtain⟨b1_,hb1_⟩:∃b,(nm == [95])=b:=⟨_,rfl⟩;by_cases hl:ts.length=1
    ·have HL:=zH hl;have g2:((ts.length:Int) == 1)=true:=(by simp;omega);have g3:((ts.length:Int) == 2)=false:=(by simp;omega);clear hl;go_wp2_with (go_at_call 104;refine(CN.o _).mono ?_;rintro e w1⟨rfl,rfl⟩);all_goals go_meet
     all_goals exact⟨_,_,_,rfl,rfl,rfl,zB _ _,zH (fun _ e=>by cases e),zH (fun _ _=>HL.o)⟩
    have g2:((ts.length:Int) == 1)=false:=(by simp;omega);clear hl;obtain⟨l1,hl1⟩:∃l1,((ts.length:Int) == 2)=l1:=⟨_,rfl⟩;go_wp2_with (go_at_call 104;refine(CN.o _).mono ?_;rintro e w1⟨rfl,rfl⟩);all_goals go_meet
    all_goals exact⟨_,_,_,rfl,rfl,rfl,zB _ _,zH (fun _ e=>by cases e),zH (fun e _=>absurd e (by decide))⟩
   have g2:(kd == 2)=false:=(by simpa using k2);have g3:(kd == 3)=false:=(by simpa using k3);have HK2:=zH k2;have HK3:=zH k3;clear k2 k3;by_cases k4:kd=4
   ·subst k4;go_wp2_with (go_at_call 104;refine(CN.o _).mono ?_;rintro e w1⟨rfl,rfl⟩);all_goals go_meet
    all_goals exact⟨_,_,_,rfl,rfl,rfl,zB _ _,zH (fun _ e=>absurd e HK2.o),zH (fun _ e=>absurd e HK3.o)⟩
   have g4:(kd == 4)=false:=(by simpa using k4);clear k4;by_cases k5:kd=5
   ·subst k5;go_wp2_with fail;all_goals go_meet
    all_goals exact⟨_,_,_,rfl,rfl,rfl,zB _ _,zH (fun _ e=>absurd e HK2.o),zH (fun _ e=>absurd e HK3.o)⟩
   have g5:(kd == 5)=false:=(by simpa using k5);clear k5;by_cases k6:kd=6
   ·subst k6;go_wp2_with fail;all_goals go_meet
    all_goals exact⟨_,_,_,rfl,rfl,rfl,zB _ _,zH (fun _ e=>absurd e HK2.o),zH (fun _ e=>absurd e HK3.o)⟩
   have g6:(kd == 6)=false:=(by simpa using k6);clear k6;go_wp2_with fail;all_goals go_meet
   all_goals exact⟨_,_,_,rfl,rfl,rfl,zB _ _,zH (fun _ e=>absurd e HK2.o),zH (fun _ e=>absurd e HK3.o)⟩
  obtain⟨b3,b4,b5,rfl,rfl,rfl,bw,H2,H3⟩:=hcut;have BW:=zH (B0.o.trans (bw.mono B0.o.size));obtain⟨x0,x1,x2,x3⟩:=cells4t ((bw.block _ s0).trans Q0.o);have HA:=zH (HA.o.below bw);have QW:=zH ((bw.block _ s0).trans Q0.o);have sw:w.heap.size<wc.heap.size:=zL QW.o;clear bw;by_cases hall:b3=true/\b4=true/\b5=true
  ·obtain⟨rfl,rfl,rfl⟩:=hall;have H2:=H2.o rfl;have H3:=H3.o rfl;by_cases k1:kd=1
   ·subst k1;clear H2 H3;go_wp2_with fail;go_ret;exact sorts_ret (r:=4) (by omega) BW.o
   have g1:(kd == 1)=false:=(by simpa using k1);clear k1;by_cases k2:kd=2
   ·subst k2;have hl2:=H2 rfl;clear H2 H3;have hm0:=Raw.sizes_mem ts ts[0] (Ze _);have hm1:=Raw.sizes_mem ts ts[1] (Ze _);obtain⟨b,o,k1,n1,p1,us,B,c1,rfl,hb,ht,d0,d1,d2,d3,hcu,hB,hT⟩:=HA.o.at_ (i:=0) (by omega);have hlz:(0:Int)<(ts.length:Int):=(by omega);simp only[Nat.zero_mul,Nat.add_zero] at d0 d1 d2 d3;clear hB ht;go_wp2_with fail;refine(IH.o ts[0] _ _ (by omega) hT).mono ?_;rintro e w1⟨⟨r,hr,rfl⟩,hb1⟩;obtain⟨r2,hr2,he⟩:=and_lt hr 2 (by omega);clear d0 d1 d2 d3 x0 x1 x2 x3;have BW1:=zH (BW.o.trans (hb1.mono BW.o.size));obtain⟨x0,x1,x2,x3⟩:=cells4t ((hb1.block _ sw).trans QW.o);by_cases hz:r2=0
    ·subst hz;clear hb1;go_wp2_with fail;go_ret;exact sorts_ret (r:=0) (by omega) BW1.o
    have hz2:((r2:Int) == 0)=false:=(by simp;omega);obtain⟨b',o',k2,n2,p2,us2,B2,c2,hA2,hb',ht',d0,d1,d2,d3,hcu',hB',hT'⟩:=(HA.o.below hb1).at_ (i:=1) (by omega);cases hA2;have hlo:(1:Int)<(ts.length:Int):=(by omega);simp only[Nat.one_mul] at d0 d1 d2 d3;clear hB' ht' hb1;go_wp2_with fail;refine(IH.o ts[1] _ _ (by omega) hT').mono ?_;rintro e w3⟨⟨r3,hr3,rfl⟩,hb3⟩;obtain⟨r4,hr4,he4⟩:=and_lt hr3 6 (by omega);go_wp2_with fail;go_ret;exact sorts_ret hr4 (BW1.o.trans (hb3.mono BW1.o.size))
   have g2:(kd == 2)=false:=(by simpa using k2);by_cases k3:kd=3
   ·subst k3;have hl1:=H3 rfl;clear H2 H3;have hm0:=Raw.sizes_mem ts ts[0] (Ze _);obtain⟨b,o,k1,n1,p1,us,B,c1,rfl,hb,ht,d0,d1,d2,d3,hcu,hB,hT⟩:=HA.o.at_ (i:=0) (by omega);have hlz:(0:Int)<(ts.length:Int):=(by omega);simp only[Nat.zero_mul,Nat.add_zero] at d0 d1 d2 d3;clear hB ht;go_wp2_with fail;refine(IH.o ts[0] _ _ (by omega) hT).mono ?_;rintro e w1⟨⟨r,hr,rfl⟩,hb1⟩;obtain⟨r2,hr2,he⟩:=and_lt hr 1 (by omega);go_wp2_with fail;go_ret;exact sorts_ret hr2 (BW.o.trans (hb1.mono BW.o.size))
   have g3:(kd == 3)=false:=(by simpa using k3);clear H2 H3 k2 k3;by_cases k456:kd=4\/kd=5\/kd=6
   ·rcases k456 with rfl | rfl | rfl;all_goals
     go_wp2_with fail;go_loopw [6] (fun i wr=>∃k:Nat,k<=ts.length/\i=zI k/\zb wc wr) (fun i _=>ts.length-(intOf i).toNat);case atStart=>exact⟨0,by omega,rfl,zB _ _⟩
     obtain⟨k,hk,rfl,hbw⟩:=hrel;clear x0 x1 x2 x3;obtain⟨x0,x1,x2,x3⟩:=cells4t ((hbw.block _ sw).trans QW.o);have BR:=zH (BW.o.trans (hbw.mono BW.o.size));have hsr:=hbw.size;by_cases hlt:k<ts.length
     ·have hm0:=Raw.sizes_mem ts ts[k] (Ze _);obtain⟨b,o,k1,n1,p1,us,B,c1,rfl,hb,ht,d0,d1,d2,d3,hcu,hB,hT⟩:=(HA.o.below hbw).at_ hlt;have HBW:=zH hbw;clear hB ht hbw;go_wp2_with fail;refine(IH.o ts[k] _ _ (by omega) hT).mono ?_;rintro e w1⟨⟨r,hr,rfl⟩,hb1⟩;obtain⟨r2,hr2,he⟩:=and_lt hr 1 (by omega);clear x0 x1 x2 x3 d0 d1 d2 d3;by_cases hz:r2=0
      ·subst hz;go_wp2_with fail;go_ret;exact sorts_ret (r:=0) (by omega) (BR.o.trans (hb1.mono BR.o.size))
      have hz2:((r2:Int) == 0)=false:=(by simp;omega);go_wp2_with fail;go_roundw;case rel=>exact⟨k+1,by omega,by go_num,HBW.o.trans (hb1.mono hsr)⟩
      case measure=>simp[intOf];omega
     clear hbw;go_wp2_with fail;go_ret;first | exact sorts_ret (r:=3) (by omega) BR.o | exact sorts_ret (r:=1) (by omega) BR.o
   have g4:(kd == 4)=false:=(by simp;omega);have g5:(kd == 5)=false:=(by simp;omega);have g6:(kd == 6)=false:=(by simp;omega);clear k456;go_wp2_with fail;go_ret;exact sorts_ret (r:=0) (by omega) BW.o
  clear H2 H3;have h3:b3=false\/(b3=true/\b4=false)\/(b3=true/\b4=true/\b5=false):=by
   cases b3
   ·exact .inl rfl
   cases b4
   ·exact .inr (.inl ⟨rfl,rfl⟩)
   cases b5
   ·exact .inr (.inr ⟨rfl,rfl,rfl⟩)
   exact absurd ⟨rfl,rfl,rfl⟩ hall
  clear hall;rcases h3 with rfl | ⟨rfl,rfl⟩ | ⟨rfl,rfl,rfl⟩;all_goals
   go_wp2_with fail;go_ret;exact sorts_ret (r:=0) (by omega) BW.o
theorem sSmall_any(t:Raw)(v:Value)(w:World)(ht:t.size<=1000000)(hv:TreeV w t v) :
  Calls Tryz.prog 75 #[v] w fun e w'=>(∃b,e=.returned (.bool b))/\zb w w':=by
 have HV:=zH hv;obtain⟨kd,nm,ps,ts⟩:=t;obtain⟨A,c,rfl,hc,hA⟩:=hv.open_;obtain⟨w0,hw0⟩:∃w0,w.alloc (.cells (zT kd nm ps A ts c) 51)=w0:=⟨_,rfl⟩;have b0:=zG hw0;have q0:=zQ hw0;have s0:=zL q0;obtain⟨x0,x1,x2,x3⟩:=cells4t q0;have C1:=zH (fun W (hb:zb w0 W)=>sSize_any _ _ _ W (zN _) (by omega) (HV.o.below (b0.trans (hb.mono b0.size))));have C2:=zH (fun W (hb:zb w0 W)=>sDepth_any _ _ _ W (zN _) (by omega) (HV.o.below (b0.trans (hb.mono b0.size))));have B0:=zH b0;have Q0:=zH q0;generalize (Raw.node kd nm ps ts).size=z at *;generalize (Raw.node kd nm ps ts).depth=y at *;clear hv hA b0 q0 ht;go_enter Tryz.func75,Tryz.ntmps75;go_wp2_with fail;refine(C1.o _ (zB _ _)).mono ?_;rintro e w1⟨rfl,hb1⟩;clear x0 x1 x2 x3 hw0;obtain⟨x0,x1,x2,x3⟩:=cells4t ((hb1.block _ s0).trans Q0.o);have HB1:=zH hb1;by_cases hz:z<=4096
 ·have hz1:decide ((z:Int)<=4096)=true:=by simp;omega
  clear hz hb1;go_wp2_with fail;refine(C2.o _ HB1.o).mono ?_;rintro e w2⟨rfl,hb2⟩;obtain⟨bb,hbb⟩:∃bb,decide ((y:Int)<=128)=bb:=⟨_,rfl⟩;go_wp2_with fail;go_ret;exact⟨⟨bb,rfl⟩,B0.o.trans ((HB1.o.trans (hb2.mono HB1.o.size)).mono B0.o.size)⟩
 have hz1:decide ((z:Int)<=4096)=false:=by simp;omega
 clear hz hb1;go_wp2_with fail;go_ret;exact⟨⟨false,rfl⟩,B0.o.trans (HB1.o.mono B0.o.size)⟩
theorem sWf_any(t:Raw)(v:Value)(w:World)(ht:t.size<=1000000)(hv:TreeV w t v) :
  Calls Tryz.prog 47 #[v] w fun e w'=>(∃x:Int,e=.returned (zI x))/\zb w w':=by
 have HV:=zH hv;obtain⟨kd,nm,ps,ts⟩:=t;obtain⟨A,c,rfl,hc,hA⟩:=hv.open_;obtain⟨w0,hw0⟩:∃w0,w.alloc (.cells (zT kd nm ps A ts c) 51)=w0:=⟨_,rfl⟩;have b0:=zG hw0;have q0:=zQ hw0;have s0:=zL q0;obtain⟨x0,x1,x2,x3⟩:=cells4t q0;have C1:=zH (fun W (hb:zb w0 W)=>sSorts_upto 1000000 (by omega) _ _ W ht (HV.o.below (b0.trans (hb.mono b0.size))));have C2:=zH (fun W (hb:zb w0 W)=>sSmall_any _ _ W ht (HV.o.below (b0.trans (hb.mono b0.size))));have B0:=zH b0;have Q0:=zH q0;clear hv hA b0 q0 ht;go_enter Tryz.func47,Tryz.ntmps47;go_wp2_with fail;refine(C1.o _ (zB _ _)).mono ?_;rintro e w1⟨⟨r,hr,rfl⟩,hb1⟩;clear x0 x1 x2 x3 hw0;obtain⟨x0,x1,x2,x3⟩:=cells4t ((hb1.block _ s0).trans Q0.o);have HB1:=zH hb1;by_cases hz:r=0
 ·subst hz;clear hb1;go_wp2_with fail;go_ret;exact⟨⟨1,rfl⟩,B0.o.trans (HB1.o.mono B0.o.size)⟩
 have hz1:((r:Int) == 0)=false:=by simp;omega
 clear hz hb1;go_wp2_with fail;refine(C2.o _ HB1.o).mono ?_;rintro e w2⟨⟨b,rfl⟩,hb2⟩;have HB2:=zH (B0.o.trans ((HB1.o.trans (hb2.mono HB1.o.size)).mono B0.o.size));clear hb2;cases b;all_goals
  go_wp2_with fail;go_ret;exact⟨⟨_,rfl⟩,HB2.o⟩
end
end Go.Proofs.YtadjpadieljjlaaGreat
