/- Parts of the proof that no input makes the law false: OrLinks2, OrCopied, TmSame, OrFol, OrVer. -/
import Derived.Test.YtadjpadieljjlaaGreatIvAG
set_option linter.unusedVariables false
set_option linter.unusedSimpArgs false
set_option maxRecDepth 100000
set_option maxHeartbeats 32000000
namespace Go.Proofs.YtadjpadieljjlaaGreat
open Go.RowKit Go.Maps
def LkI (w:World) (l:List Lfc.Link) (v:Value) (wr:World):Prop:=∃xs,wr.ownsRow w.heap.size 93 7 v l.length xs∧LinkRow (fun b=>w.heap.size≤b∧v.ownBlock≠some b) wr l xs∧Below w.heap.size w wr
theorem oneCell7 {a k p f:Int} {n:List UInt8} {A B:Option Addr} {i c j d:Nat}:∀u∈[Value.int .i64 a,.int .i64 k,S n,.int .i64 p,.slice A i c,.slice B j d,.int .i64 f],u.oneCell'=true:=by
 intro u hu
 simp only [List.mem_cons,List.not_mem_nil,or_false] at hu
 rcases hu with rfl | rfl | rfl | rfl | rfl | rfl | rfl <;> rfl
theorem LkI.step {w wr W w':World} {l:List Lfc.Link} {v v':Value} {x:Lfc.Link} {xs:List Value} {k p:Int} {n:List UInt8} {ts:List Lfc.Raw} {At A:Option Addr} {ct c:Nat} {o:Obj}
  (hown:wr.ownsRow w.heap.size 93 7 v l.length xs) (hrow:LinkRow (fun b=>w.heap.size≤b∧v.ownBlock≠some b) wr l xs) (hb:Below w.heap.size w wr) (hW:Below wr.heap.size wr W)
  (ht:x.term=.node k n p ts) (hc:x.path.length≤c) (hp:IntsP (fun b=>wr.heap.size≤b) W A x.path) (hv:TreeVP (fun b=>wr.heap.size≤b) W x.term (.agg #[.int .i64 k,S n,.int .i64 p,.slice At (List.length ts) ct]))
  (h':w'.ownsRow w.heap.size 93 7 v' (l.length+1) (xs++[.int .i64 x.kind,.int .i64 k,S n,.int .i64 p,.slice At (List.length ts) ct,.slice A x.path.length c,.int .i64 x.fact])) (hg:(W.alloc o).grownBy w' v.ownBlock) (hloc:v'.ownBlock=v.ownBlock∨v'.ownBlock=some (W.alloc o).heap.size):LkI w (l++[x]) v' w':=by
 have hsz:(W.alloc o).heap.size=W.heap.size+1:=by simp
 have hs1:=hW.size
 have hs2:=hg.size
 have hold:∀b,v.ownBlock≠some b→b<W.heap.size→w'.heap[b]?=W.heap[b]?:=fun b hne hlt=>(hg.block b (by omega) (fun e=>hne e.symm)).trans (zA _ _ _ hlt)
 have hvb:∀b,v.ownBlock=some b→b<wr.heap.size:=fun b e=>(hown.lt b e).2
 have hne':∀b,b<W.heap.size→v.ownBlock≠some b→v'.ownBlock≠some b:=fun b hlt hne e=>by
  rcases hloc with e2 | e2
  ·exact hne (e2 ▸ e)
  rw [e2] at e;have:=zO e;omega
 refine ⟨_,by rw [List.length_append];exact h',LinkRow.append ?_ (hrow.keep (fun b hq hlt=>(hold b hq.2 (by omega)).trans (hW.block b hlt)) (by omega) (fun b hlt hq=>⟨hq.1,hne' b (by omega) hq.2⟩)),?_⟩
 ·rw [LinkRow]
  have hq:∀b,wr.heap.size≤b→v.ownBlock≠some b:=fun b hb2 e=>by have:=hvb b e;omega
  refine ⟨k,n,p,ts,At,ct,A,c,[],ht,rfl,hc,hp.keep (fun b hb2 hlt=>hold b (hq b hb2) hlt) (by omega) (fun b hlt hb2=>⟨by have:=hb.size;have hb2:wr.heap.size≤b:=hb2;omega,hne' b hlt (hq b hb2)⟩),hv.keep (fun b hb2 hlt=>hold b (hq b hb2) hlt) (by omega) (fun b hlt hb2=>⟨by have:=hb.size;have hb2:wr.heap.size≤b:=hb2;omega,hne' b hlt (hq b hb2)⟩),by rw [LinkRow]⟩
 have hb1:Below w.heap.size w (W.alloc o):=(hb.trans (hW.mono hb.size)).alloc (by have:=hb.size;omega) _
 exact Below.grown hb1 hg (by have:=hb.size;omega) (fun b e=>(hown.lt b e).1)
theorem oLinks_any (q:Nat→Prop) (l:List Lfc.Link) (A:Option Addr) (c:Nat) (w:World) (hn:l.length≤100000) (hst:∀x∈l,x.term.size≤1000000∧x.path.length≤10000000) (hl:LinksP q w A l) :
  Calls Tryz.prog 64 #[.slice A l.length c] w fun e w'=>(∃A' c',e=.returned (.slice A' l.length c')∧l.length≤c'∧LinksP (fun b=>w.heap.size≤b) w' A' l)∧Below w.heap.size w w':=by
 obtain ⟨i0,hi,hz0,hz1,hz2⟩:=info_parts linkInfo
 have HL:=zH hl
 have HST:=zH hst
 obtain ⟨N,hN⟩:∃N,l.length=N:=⟨_,rfl⟩
 rw [hN] at hn ⊢
 have HN:=zH hN
 have I0:Hid (LkI w (l.take 0) (.slice none 0 0) w):=zH ⟨[],World.ownsRow_nil w w.heap.size _ 7,by rw [List.take_zero,LinkRow],zB _ _⟩
 clear hl hst hN
 go_enter Tryz.func64,Tryz.ntmps64
 go_wp2_with fail
 go_loopw [3,8] (fun v i wr=>∃ (k:Nat),k≤N∧i=.int .i64 (k:Int)∧Hid (LkI w (l.take k) v wr)) (fun _ i _=>N-(intOf i).toNat)
 case atStart=>exact ⟨0,by omega,rfl,I0⟩
 clear I0
 obtain ⟨k,hk,rfl,HI⟩:=hrel
 obtain ⟨xs,hown,hrow,hbw⟩:=HI.out
 have htk:(l.take k).length=k:=by rw [List.length_take,HN.out];omega
 by_cases hlt:k<N
 ·have hlt2:k<l.length:=by rw [HN.out];exact hlt
  have HT:=zH (List.take_succ_eq_append_getElem hlt2)
  obtain ⟨b,o,rfl,hb,_,hall⟩:=HL.out (by intro h;rw [h] at hlt2;cases hlt2)
  obtain ⟨kk,nn,pp,us,At,ct,Ap,cp,he,d0,d1,d2,d3,d4,d5,d6,hcp,hip,htv⟩:=hall k hlt2
  obtain ⟨hsz,hpl⟩:=HST.out _ (List.getElem_mem hlt2)
  generalize l[k]=x at *
  obtain ⟨xk,xt,xp,xf⟩:=x
  simp only at he d0 d5 d6 hcp hip htv hsz hpl
  have HE:=zH he
  have HTK:=zH htk
  rw [htk] at hown
  have f0:=(hbw.cell (p:=⟨b,o+k*7,none⟩) hb).trans d0
  have f1:=(hbw.cell (p:=⟨b,o+k*7+1,none⟩) hb).trans d1
  have f2:=(hbw.cell (p:=⟨b,o+k*7+2,none⟩) hb).trans d2
  have f3:=(hbw.cell (p:=⟨b,o+k*7+3,none⟩) hb).trans d3
  have f4:=(hbw.cell (p:=⟨b,o+k*7+4,none⟩) hb).trans d4
  have f5:=(hbw.cell (p:=⟨b,o+k*7+5,none⟩) hb).trans d5
  have f6:=(hbw.cell (p:=⟨b,o+k*7+6,none⟩) hb).trans d6
  have hi0:(0:Int)≤(k:Int):=Int.natCast_nonneg _
  have hi1:(k:Int)<(N:Int):=by omega
  obtain ⟨wx,hwx⟩:∃wx,wr.alloc (.cells #[.int .i64 xk,.int .i64 kk,S nn,.int .i64 pp,.slice At us.length ct,.slice Ap xp.length cp,.int .i64 xf] 93)=wx:=⟨_,rfl⟩
  have bx:=zG hwx
  have qx:=zQ hwx
  have lx:=zL qx
  have BX:=zH bx
  have HWX:=zH hwx
  have HB:=zH hbw
  have hox:=hown.kept (Oth.of_below (T:=wx.heap.size) bx) (.inr fun e=>by have:=(hown.lt _ e).2;have:=bx.size;omega)
  have SC:Hid (∀W,Below wx.heap.size wx W→W.cell? ⟨wr.heap.size,0,none⟩=some (.int .i64 xk)∧(W.cell? ⟨wr.heap.size,1,none⟩=some (.int .i64 kk)∧W.cell? ⟨wr.heap.size,2,none⟩=some (S nn)∧W.cell? ⟨wr.heap.size,3,none⟩=some (.int .i64 pp)∧W.cell? ⟨wr.heap.size,4,none⟩=some (.slice At us.length ct))∧W.cell? ⟨wr.heap.size,5,none⟩=some (.slice Ap xp.length cp)∧W.cell? ⟨wr.heap.size,6,none⟩=some (.int .i64 xf)):=zH (fun W hW=>by
   have e:=(hW.block _ lx).trans qx
   exact ⟨zC e 0,⟨zC e 1,zC e 2,zC e 3,zC e 4⟩,zC e 5,zC e 6⟩)
  have SB:Hid (∀W:World,W.heap[wr.heap.size]?=wx.heap[wr.heap.size]?→W.cell? ⟨wr.heap.size,0,none⟩=some (.int .i64 xk)∧(W.cell? ⟨wr.heap.size,1,none⟩=some (.int .i64 kk)∧W.cell? ⟨wr.heap.size,2,none⟩=some (S nn)∧W.cell? ⟨wr.heap.size,3,none⟩=some (.int .i64 pp)∧W.cell? ⟨wr.heap.size,4,none⟩=some (.slice At us.length ct))∧W.cell? ⟨wr.heap.size,5,none⟩=some (.slice Ap xp.length cp)∧W.cell? ⟨wr.heap.size,6,none⟩=some (.int .i64 xf)):=zH (fun W hW=>by
   have e:=hW.trans qx
   exact ⟨zC e 0,⟨zC e 1,zC e 2,zC e 3,zC e 4⟩,zC e 5,zC e 6⟩)
  have hvne:u3.ownBlock≠some wr.heap.size:=fun e=>by have:=(hown.lt _ e).2;omega
  have hv0:=(htv.toV.below hbw).below bx
  have hp0:=(hip.toO.below hbw).below bx
  have CT:Hid (∀W,Below wx.heap.size wx W→Calls Tryz.prog 93 #[.agg #[.int .i64 kk,S nn,.int .i64 pp,.slice At us.length ct]] W fun e w'=>(∃A' c',e=.returned (.agg #[.int .i64 kk,S nn,.int .i64 pp,.slice A' us.length c'])∧TreeVP (fun b=>W.heap.size≤b) w' xt (.agg #[.int .i64 kk,S nn,.int .i64 pp,.slice A' us.length c']))∧Below W.heap.size W w'):=zH (fun W hW=>by
   refine (ownTerm_upto _ hsz xt _ W (zN _) (hv0.below hW)).mono ?_
   rintro e w' ⟨⟨v',rfl,h⟩,hb⟩
   rw [HE.out] at h
   obtain ⟨A',c',rfl,_⟩:=h.openT
   rw [←HE.out] at h
   exact ⟨⟨A',c',rfl,h⟩,hb⟩)
  have CC:Hid (∀W,Below wx.heap.size wx W→Calls Tryz.prog 94 #[.slice Ap xp.length cp] W fun e w'=>(∃A' c',e=.returned (.slice A' xp.length c')∧xp.length≤c'∧IntsP (fun b=>W.heap.size≤b) w' A' xp)∧Below W.heap.size W w'):=zH (fun W hW=>cloneInts_any xp Ap cp W hpl (hp0.below hW))
  have OW:Hid (∀W,Below wx.heap.size wx W→W.ownsRow w.heap.size 93 7 u3 k xs):=zH (fun W hW=>hox.kept (Oth.of_below (T:=W.heap.size) hW) (.inr fun e=>by have:=(hox.lt _ e).2;have:=hW.size;omega))
  have HOWN:=zH hown
  have HROW:=zH hrow
  have hlm:k+1≤maxLen:=by unfold maxLen;omega
  have hlb:(k+1)*96≤140737488355328:=by omega
  have hsw:w.heap.size≤wx.heap.size:=Nat.le_trans hbw.size bx.size
  have G0:Below wx.heap.size wx wx.drew:=(zB _ _).drew
  have aa:∀W W',Below wx.heap.size wx W→Below W.heap.size W W'→Below wx.heap.size wx W':=fun W W' h h'=>h.trans (h'.mono h.size)
  clear hown hrow hbw hox hv0 hp0 htv hip he hwx bx qx d0 d1 d2 d3 d4 d5 d6 hall HI htk hlt2 hb hsz hpl
  go_upto_region 5 with fail
  rw [HWX.out]
  clear HWX f0 f1 f2 f3 f4 f5 f6
  go_region_held3 (fun W=>W.cell? ⟨wr.heap.size,0,none⟩=some (.int .i64 xk)∧(W.cell? ⟨wr.heap.size,1,none⟩=some (.int .i64 kk)∧W.cell? ⟨wr.heap.size,2,none⟩=some (S nn)∧W.cell? ⟨wr.heap.size,3,none⟩=some (.int .i64 pp)∧W.cell? ⟨wr.heap.size,4,none⟩=some (.slice At us.length ct))∧W.cell? ⟨wr.heap.size,5,none⟩=some (.slice Ap xp.length cp)∧W.cell? ⟨wr.heap.size,6,none⟩=some (.int .i64 xf))
   (first | exact SC.out _ G0 | assumption | (refine SC.out _ ?_;assumption) | (refine SC.out _ ?_;refine Below.alloc ?_ (Below.size (by assumption)) _;assumption))
   (first
    | (go_at_call 93;((with_reducible refine (CT.out _ ?_).mono ?_));assumption;rintro e w5 ⟨⟨A5,c5,rfl,h5⟩,hb5'⟩;have hb5:=aa _ _ (by assumption) hb5')
    | (go_at_call 94;((with_reducible refine (CC.out _ ?_).mono ?_));assumption;rintro e w6 ⟨⟨A6,c6,rfl,hc6,h6⟩,hb6'⟩;have hb6:=aa _ _ (by assumption) hb6')
    | (refine step_append_own_at _ (by rfl) _ _ 37 (by rfl) w.heap.size 93 i0 _ 7 96 Tryz.underlying37 hi hz0 hz1 hz2 rfl (by decide) _ _ _ (by rfl) ((OW.out w6 hb6).alloc _) ⟨w6.heap.size,0,none⟩ 1 1 [.int .i64 xk,.int .i64 kk,S nn,.int .i64 pp,.slice A5 us.length c5,.slice A6 xp.length c6,.int .i64 xf] (by rfl) (by rfl) (fun j u h=>ocells_new w6 _ rfl [.int .i64 xk,.int .i64 kk,S nn,.int .i64 pp,.slice A5 us.length c5,.slice A6 xp.length c6,.int .i64 xf] _ j u h) oneCell7 hlm hlb (oalloc_le (Nat.le_trans hsw hb6.size)) ?_;intro v9 w9 hown9 hg9 hloc9;have HN9:Hid (LkI w (l.take (k+1)) v9 w9):=zH (by rw [HT.out];exact LkI.step (x:=⟨xk,xt,xp,xf⟩) (by rw [HTK.out];exact HOWN.out) HROW.out HB.out (BX.out.trans (hb6.mono BX.out.size)) HE.out hc6 (h6.keep (fun _ _ _=>rfl) (zN _) (fun b _ h=>Nat.le_trans (Nat.le_trans BX.out.size hb5.size) h)) (h5.keep (fun b _ hlt=>hb6'.block b hlt) hb6'.size (fun b _ h=>Nat.le_trans BX.out.size h)) (by rw [HTK.out];exact hown9) hg9 hloc9);have h9c:=SB.out w9 ((hg9.block wr.heap.size (by have:=hb6.size;simp;omega) (fun e=>hvne e.symm)).trans ((zA _ _ _ (by have:=hb6.size;omega)).trans (hb6.block _ lx)));(try dsimp only at h9c);clear hg9 hloc9 hown9)
    | (refine step_append_own_at _ (by rfl) _ _ 37 (by rfl) w.heap.size 93 i0 _ 7 96 Tryz.underlying37 hi hz0 hz1 hz2 rfl (by decide) _ _ _ (by rfl) ((OW.out w5 hb5).alloc _) ⟨w5.heap.size,0,none⟩ 1 1 [.int .i64 xk,.int .i64 kk,S nn,.int .i64 pp,.slice A5 us.length c5,.slice A6 xp.length c6,.int .i64 xf] (by rfl) (by rfl) (fun j u h=>ocells_new w5 _ rfl [.int .i64 xk,.int .i64 kk,S nn,.int .i64 pp,.slice A5 us.length c5,.slice A6 xp.length c6,.int .i64 xf] _ j u h) oneCell7 hlm hlb (oalloc_le (Nat.le_trans hsw hb5.size)) ?_;intro v9 w9 hown9 hg9 hloc9;have HN9:Hid (LkI w (l.take (k+1)) v9 w9):=zH (by rw [HT.out];exact LkI.step (x:=⟨xk,xt,xp,xf⟩) (by rw [HTK.out];exact HOWN.out) HROW.out HB.out (BX.out.trans (hb5.mono BX.out.size)) HE.out hc6 (h6.keep (fun b _ hlt=>hb5'.block b hlt) hb5'.size (fun b _ h=>Nat.le_trans BX.out.size h)) (h5.keep (fun _ _ _=>rfl) (zN _) (fun b _ h=>Nat.le_trans (Nat.le_trans BX.out.size hb6.size) h)) (by rw [HTK.out];exact hown9) hg9 hloc9);have h9c:=SB.out w9 ((hg9.block wr.heap.size (by have:=hb5.size;simp;omega) (fun e=>hvne e.symm)).trans ((zA _ _ _ (by have:=hb5.size;omega)).trans (hb5.block _ lx)));(try dsimp only at h9c);clear hg9 hloc9 hown9))
  all_goals
   go_wp2_with fail
   go_roundw
   case rel=>exact ⟨k+1,by omega,by go_num,HN9⟩
   case measure=>simp [intOf];omega
 obtain rfl:k=N:=by omega
 have HZ:Hid ((∃A' c',Ending.returned u3=.returned (.slice A' k c')∧k≤c'∧LinksP (fun b=>w.heap.size≤b) wr A' l)∧Below w.heap.size w wr):=zH (by
  rw [←HN.out,List.take_length] at hown hrow
  obtain ⟨A',c',hv,hc⟩:=own_form hown
  subst hv
  rw [HN.out] at hc
  refine ⟨⟨A',c',by rw [HN.out],hc,linksP_own hown (fun _ h=>h) (hrow.keep (fun _ _ _=>rfl) (zN _) (fun b _ h=>h.1))⟩,hbw⟩)
 clear hown hrow hbw HI
 go_wp2_with fail
 go_ret
 exact HZ.out
end Go.Proofs.YtadjpadieljjlaaGreat
namespace Go.Proofs.YtadjpadieljjlaaGreat
open Go.RowKit Go.Maps
def CpI (w2:World) (B:Nat) (ix:Int) (l m:List Lfc.Link) (A5 A6:Option Addr) (N M c5 c6:Nat) (W:World):Prop :=
 Below w2.heap.size w2 W∧w2.heap.size≤B∧W.heap[B]?=some (.cells #[.int .i64 ix,.slice none 0 0,.slice A5 N c5,.slice A6 M c6] 39 (0,0))∧(LinksP (fun b=>w2.heap.size≤b) W A5 l∧N≤c5)∧(LinksP (fun b=>w2.heap.size≤b) W A6 m∧M≤c6)
theorem cpi_mid {w2 w5 w6 s4:World} {ix:Int} {l m:List Lfc.Link} {A5 A6:Option Addr} {N M c5 c6:Nat} {o:Obj} (h5:LinksP (fun b=>w2.heap.size≤b) w5 A5 l) (hc5:N≤c5) (h6:LinksP (fun b=>(w5.alloc o).heap.size≤b) w6 A6 m) (hc6:M≤c6) (hs:w2.heap.size≤w5.heap.size) (hb6:Below (w5.alloc o).heap.size (w5.alloc o) w6)
  (hq:s4.heap[w5.heap.size]?=some (.cells #[.int .i64 ix,.slice none 0 0,.slice A5 N c5,.slice A6 M c6] 39 (0,0))) (ho:Oth w5.heap.size w6 s4) (hs4:Below w2.heap.size w2 s4):CpI w2 w5.heap.size ix l m A5 A6 N M c5 c6 s4:=by
 have e:(w5.alloc o).heap.size=w5.heap.size+1:=by simp
 have hs6:=hb6.size
 refine ⟨hs4,hs,hq,⟨h5.keep (fun b _ hlt=>?_) (Nat.le_trans (by omega) ho.size) (fun _ _ h=>h),hc5⟩,⟨h6.keep (fun b hb hlt=>?_) ho.size (fun b _ hb=>?_),hc6⟩⟩
 ·exact (ho.block b (by omega) (fun e=>by have e:=zO e;omega)).trans ((hb6.block b (by omega)).trans (zA _ _ _ hlt))
 ·have hb:(w5.alloc o).heap.size≤b:=hb
  exact ho.block b hlt (fun e=>by have e:=zO e;omega)
 have hb:(w5.alloc o).heap.size≤b:=hb
 show w2.heap.size≤b
 omega
theorem cpi_first {w2 w5 w6 s4:World} {ix:Int} {l m:List Lfc.Link} {A5 A6:Option Addr} {N M c5 c6:Nat} (h5:LinksP (fun b=>w2.heap.size<b) w5 A5 l) (hc5:N≤c5) (h6:LinksP (fun b=>w5.heap.size≤b) w6 A6 m) (hc6:M≤c6) (hs:w2.heap.size<w5.heap.size) (hb6:Below w5.heap.size w5 w6)
  (hq:s4.heap[w2.heap.size]?=some (.cells #[.int .i64 ix,.slice none 0 0,.slice A5 N c5,.slice A6 M c6] 39 (0,0))) (ho:Oth w2.heap.size w6 s4) (hs4:Below w2.heap.size w2 s4):CpI w2 w2.heap.size ix l m A5 A6 N M c5 c6 s4:=by
 have hs6:=hb6.size
 refine ⟨hs4,zN _,hq,⟨h5.keep (fun b hb hlt=>?_) (Nat.le_trans hs6 ho.size) (fun b _ hb=>Nat.le_of_lt hb),hc5⟩,⟨h6.keep (fun b hb hlt=>?_) ho.size (fun b _ hb=>?_),hc6⟩⟩
 ·have hb:w2.heap.size<b:=hb
  exact (ho.block b (by omega) (fun e=>by have e:=zO e;omega)).trans (hb6.block b hlt)
 ·have hb:w5.heap.size≤b:=hb
  exact ho.block b hlt (fun e=>by have e:=zO e;omega)
 have hb:w5.heap.size≤b:=hb
 show w2.heap.size≤b
 omega
theorem oCopied0_any (q q':Nat→Prop) (ix:Int) (l m:List Lfc.Link) (A B:Option Addr) (c d:Nat) (w:World) (hn:l.length≤100000) (hm:m.length≤100000) (hst:∀x∈l,x.term.size≤1000000∧x.path.length≤10000000) (hmt:∀x∈m,x.term.size≤1000000∧x.path.length≤10000000) (hl:LinksP q w A l) (hl':LinksP q' w B m) :
  Calls Tryz.prog 37 #[.agg #[.int .i64 ix,.slice none 0 0,.slice A l.length c,.slice B m.length d]] w fun e w'=>(∃A' c' B' d',e=.returned (.agg #[.int .i64 ix,.slice none 0 0,.slice A' l.length c',.slice B' m.length d'])∧l.length≤c'∧m.length≤d'∧LinksP (fun b=>w.heap.size≤b) w' A' l∧LinksP (fun b=>w.heap.size≤b) w' B' m)∧Below w.heap.size w w':=by
 obtain ⟨N,hN⟩:∃N,l.length=N:=⟨_,rfl⟩
 obtain ⟨M,hM⟩:∃M,m.length=M:=⟨_,rfl⟩
 obtain ⟨w1,hw1⟩:∃w1,w.alloc (.cells #[.int .i64 ix,.slice none 0 0,.slice A N c,.slice B M d] 39)=w1:=⟨_,rfl⟩
 obtain ⟨w2,hw2⟩:∃w2,w1.alloc (.cells #[.int .i64 0,.slice none 0 0,.slice none 0 0,.slice none 0 0] 39)=w2:=⟨_,rfl⟩
 have b1:=zG hw1
 have b2:=zG hw2
 have q1:=zQ hw1
 have q2:=zQ hw2
 have l1:=zL q1
 have l2:=zL q2
 have b02:Below w.heap.size w w2:=b1.trans (b2.mono (by omega))
 have s02:w.heap.size≤w2.heap.size:=by omega
 have Q1:=zH ((b2.block _ l1).trans q1)
 have Q2:=zH q2
 have B02:=zH b02
 have CL:Hid (∀W,Below w2.heap.size w2 W→Calls Tryz.prog 64 #[.slice A N c] W fun e w'=>(∃A' c',e=.returned (.slice A' N c')∧N≤c'∧LinksP (fun b=>W.heap.size≤b) w' A' l)∧Below W.heap.size W w'):=zH (fun W hW=>by
  have:=oLinks_any q l A c W hn hst (hl.below (b02.trans (hW.mono s02)))
  rwa [hN] at this)
 have CM:Hid (∀W,Below w2.heap.size w2 W→Calls Tryz.prog 64 #[.slice B M d] W fun e w'=>(∃A' c',e=.returned (.slice A' M c')∧M≤c'∧LinksP (fun b=>W.heap.size≤b) w' A' m)∧Below W.heap.size W w'):=zH (fun W hW=>by
  have:=oLinks_any q' m B d W hm hmt (hl'.below (b02.trans (hW.mono s02)))
  rwa [hM] at this)
 have SC:Hid (∀W,Below w2.heap.size w2 W→W.cell? ⟨w.heap.size,0,none⟩=some (.int .i64 ix)∧W.cell? ⟨w.heap.size,2,none⟩=some (.slice A N c)∧W.cell? ⟨w.heap.size,3,none⟩=some (.slice B M d)):=zH (fun W hW=>by
  have e:=(hW.block _ (by omega)).trans Q1.out
  exact ⟨zC e 0,zC e 2,zC e 3⟩)
 have G0:Below w2.heap.size w2 w2.drew:=(zB _ _).drew
 have aa:∀W W',Below w2.heap.size w2 W→Below W.heap.size W W'→Below w2.heap.size w2 W':=fun W W' h h'=>h.trans (h'.mono h.size)
 have HA0:Below w2.heap.size w2 (w2.alloc (.cells #[.int .i64 0,.slice none 0 0,.slice none 0 0,.slice none 0 0] 39)).drew:=((zB _ _).alloc (zN _) _).drew
 have HA1:w2.heap.size<(w2.alloc (.cells #[.int .i64 0,.slice none 0 0,.slice none 0 0,.slice none 0 0] 39)).drew.heap.size:=by simp [World.drew]
 have HA2:(w2.alloc (.cells #[.int .i64 0,.slice none 0 0,.slice none 0 0,.slice none 0 0] 39)).drew.heap[w2.heap.size]?=some (Obj.cells #[.int .i64 0,.slice none 0 0,.slice none 0 0,.slice none 0 0] 39 (0,0)):=zW w2 _
 have HN:=zH hN
 have HM:=zH hM
 rw [hN,hM]
 clear hl hl' hst hmt hn hm hN hM b1 b2 q1 q2 b02
 go_enter Tryz.func37,Tryz.ntmps37
 go_upto_region 1 with fail
 clear hw1 hw2
 go_region_held3 (fun W=>W.cell? ⟨w.heap.size,0,none⟩=some (.int .i64 ix)∧W.cell? ⟨w.heap.size,2,none⟩=some (.slice A N c)∧W.cell? ⟨w.heap.size,3,none⟩=some (.slice B M d))
  (first | exact SC.out _ G0 | exact SC.out _ HA0 | assumption | (refine SC.out _ ?_;assumption) | exact SC.out _ (hsa5 _) | exact SC.out _ (hsa6 _) | exact SC.out _ HA0)
  (first
   | (go_at_call 64;((with_reducible refine (CL.out w2.drew G0).mono ?_));rintro e w5 ⟨⟨A5,c5,rfl,hc5,h5⟩,hb5'⟩;have hb5:=aa _ _ G0 hb5';have hsa5:∀o,Below w2.heap.size w2 (w5.alloc o):=fun o=>hb5.alloc hb5.size o;have H5:Hid (LinksP (fun b=>w2.heap.size≤b) w5 A5 l∧N≤c5):=zH ⟨h5,hc5⟩;clear h5 hc5)
   | (go_at_call 64;((with_reducible refine (CL.out (w2.alloc (.cells #[.int .i64 0,.slice none 0 0,.slice none 0 0,.slice none 0 0] 39)).drew HA0).mono ?_));rintro e w5 ⟨⟨A5,c5,rfl,hc5,h5⟩,hb5'⟩;have hb5:=aa _ _ HA0 hb5';have hsa5:∀o,Below w2.heap.size w2 (w5.alloc o):=fun o=>hb5.alloc hb5.size o;have qb5:=zH ((hb5'.block w2.heap.size HA1).trans HA2);have H5:Hid (LinksP (fun b=>w2.heap.size<b) w5 A5 l∧N≤c5):=zH ⟨h5.keep (fun _ _ _=>rfl) (zN _) (fun b _ h=>Nat.lt_of_lt_of_le HA1 h),hc5⟩;clear h5 hc5)
   | (go_at_call 64;((with_reducible refine (CM.out (w5.alloc (.cells #[.int .i64 0,.slice none 0 0,.slice none 0 0,.slice none 0 0] 39)) (hb5.alloc hb5.size _)).mono ?_));rintro e w6 ⟨⟨A6,c6,rfl,hc6,h6⟩,hb6'⟩;have hb6:=aa _ _ (hb5.alloc hb5.size _) hb6';have hsa6:∀o,Below w2.heap.size w2 (w6.alloc o):=fun o=>hb6.alloc hb6.size o;have qb6:=(hb6'.block w5.heap.size (by simp)).trans (zW w5 (.cells #[.int .i64 0,.slice none 0 0,.slice none 0 0,.slice none 0 0] 39));obtain ⟨s1,s2,s3,s4,k1,k2,k3,k4,⟨x0,x1,x2,x3⟩,⟨t0,t1,t2,t3⟩,hq,ho⟩:=put4 qb6 (.int .i64 ix) (.slice none 0 0) (.slice A5 N c5) (.slice A6 M c6);have hs4:Below w2.heap.size w2 s4:=Oth.below hb6 ho hb5.size hb6.size;have HF:Hid (CpI w2 w5.heap.size ix l m A5 A6 N M c5 c6 s4):=zH (cpi_mid H5.out.1 H5.out.2 h6 hc6 hb5.size hb6' hq ho hs4);clear hq ho qb6 h6 hc6)
   | (go_at_call 64;((with_reducible refine (CM.out w5 hb5).mono ?_));rintro e w6 ⟨⟨A6,c6,rfl,hc6,h6⟩,hb6'⟩;have hb6:=aa _ _ hb5 hb6';have hsa6:∀o,Below w2.heap.size w2 (w6.alloc o):=fun o=>hb6.alloc hb6.size o;have qb6:=(hb6'.block w2.heap.size (zL qb5.out)).trans qb5.out;obtain ⟨s1,s2,s3,s4,k1,k2,k3,k4,⟨x0,x1,x2,x3⟩,⟨t0,t1,t2,t3⟩,hq,ho⟩:=put4 qb6 (.int .i64 ix) (.slice none 0 0) (.slice A5 N c5) (.slice A6 M c6);have hs4:Below w2.heap.size w2 s4:=Oth.below hb6 ho (zN _) hb6.size;have HF:Hid (CpI w2 w2.heap.size ix l m A5 A6 N M c5 c6 s4):=zH (cpi_first H5.out.1 H5.out.2 h6 hc6 (zL qb5.out) hb6' hq ho hs4);clear hq ho qb6 h6 hc6)
   | (go_at_call 64;((with_reducible refine (CM.out w5 hb5).mono ?_));rintro e w6 ⟨⟨A6,c6,rfl,hc6,h6⟩,hb6'⟩;have hb6:=aa _ _ hb5 hb6';have hsa6:∀o,Below w2.heap.size w2 (w6.alloc o):=fun o=>hb6.alloc hb6.size o;have H6:Hid (LinksP (fun b=>w2.heap.size≤b) w6 A5 l∧N≤c5∧LinksP (fun b=>w2.heap.size≤b) w6 A6 m∧M≤c6):=zH ⟨H5.out.1.below hb6',H5.out.2,h6.keep (fun _ _ _=>rfl) (zN _) (fun b _ h=>Nat.le_trans hb5.size h),hc6⟩;clear h6 hc6))
 ·obtain ⟨s4,hs4⟩:∃s4,w6.alloc (.cells #[.int .i64 ix,.slice none 0 0,.slice A5 N c5,.slice A6 M c6] 39)=s4:=⟨_,rfl⟩
  have HF:Hid (CpI w2 w6.heap.size ix l m A5 A6 N M c5 c6 s4):=zH (by
   have bz:=zG hs4
   exact ⟨hb6.trans (bz.mono hb6.size),hb6.size,by rw [←hs4];exact zW _ _,⟨H6.out.1.below bz,H6.out.2.1⟩,⟨H6.out.2.2.1.below bz,H6.out.2.2.2⟩⟩)
  rw [hs4]
  clear hs4
  obtain ⟨hbW,hBx,hqB,⟨g5,hc5⟩,⟨g6,hc6⟩⟩:=HF.out
  obtain ⟨y0,y1,y2,y3⟩:=cells4t ((hbW.block _ (by omega)).trans Q1.out)
  obtain ⟨z0,z1,z2,z3⟩:=cells4t hqB
  obtain ⟨r1,r2,r3,r4,m1,m2,m3,m4,⟨p0,p1,p2,p3⟩,⟨f0,f1,f2,f3⟩,hqr,hor⟩:=put4 ((hbW.block _ l2).trans Q2.out) (.int .i64 ix) (.slice none 0 0) (.slice A5 N c5) (.slice A6 M c6)
  have HQ:=zH hqr
  have HZ:Hid ((∃A' c' B' d',Ending.returned (.agg #[.int .i64 ix,.slice none 0 0,.slice A5 N c5,.slice A6 M c6])=.returned (.agg #[.int .i64 ix,.slice none 0 0,.slice A' N c',.slice B' M d'])∧N≤c'∧M≤d'∧LinksP (fun b=>w.heap.size≤b) r4 A' l∧LinksP (fun b=>w.heap.size≤b) r4 B' m)∧Below w.heap.size w r4):=zH ⟨⟨A5,c5,A6,c6,rfl,hc5,hc6,g5.keep (fun b hb hlt=>hor.block b hlt (fun e=>by have e:=zO e;have hb:w2.heap.size≤b:=hb;omega)) hor.size (fun b _ hb=>Nat.le_trans s02 hb),g6.keep (fun b hb hlt=>hor.block b hlt (fun e=>by have e:=zO e;have hb:w2.heap.size≤b:=hb;omega)) hor.size (fun b _ hb=>Nat.le_trans s02 hb)⟩,Oth.below (B02.out.trans (hbW.mono s02)) hor (by omega) (Nat.le_trans s02 hbW.size)⟩
  clear hqr hor g5 g6 hqB hbW HF
  go_wp2_with fail
  go_loopw [18] (fun i wr=>i=.int .i64 0∧wr=s4) (fun i _=>0)
  case atStart=>exact ⟨rfl,by simp⟩
  obtain ⟨rfl,hwx⟩:=hrel
  subst hwx
  go_wp2_with fail
  refine bodyPost_ret (results_proof rfl _ _ _ _ _ _ _ rfl HQ.out) rfl ?_
  exact HZ.out
 ·clear k1 k2 k3 k4 x0 x1 x2 x3 t0 t1 t2 t3
  obtain ⟨hbW,hBx,hqB,⟨g5,hc5⟩,⟨g6,hc6⟩⟩:=HF.out
  obtain ⟨y0,y1,y2,y3⟩:=cells4t ((hbW.block _ (by omega)).trans Q1.out)
  obtain ⟨z0,z1,z2,z3⟩:=cells4t hqB
  obtain ⟨r1,r2,r3,r4,m1,m2,m3,m4,⟨p0,p1,p2,p3⟩,⟨f0,f1,f2,f3⟩,hqr,hor⟩:=put4 ((hbW.block _ l2).trans Q2.out) (.int .i64 ix) (.slice none 0 0) (.slice A5 N c5) (.slice A6 M c6)
  have HQ:=zH hqr
  have HZ:Hid ((∃A' c' B' d',Ending.returned (.agg #[.int .i64 ix,.slice none 0 0,.slice A5 N c5,.slice A6 M c6])=.returned (.agg #[.int .i64 ix,.slice none 0 0,.slice A' N c',.slice B' M d'])∧N≤c'∧M≤d'∧LinksP (fun b=>w.heap.size≤b) r4 A' l∧LinksP (fun b=>w.heap.size≤b) r4 B' m)∧Below w.heap.size w r4):=zH ⟨⟨A5,c5,A6,c6,rfl,hc5,hc6,g5.keep (fun b hb hlt=>hor.block b hlt (fun e=>by have e:=zO e;have hb:w2.heap.size≤b:=hb;omega)) hor.size (fun b _ hb=>Nat.le_trans s02 hb),g6.keep (fun b hb hlt=>hor.block b hlt (fun e=>by have e:=zO e;have hb:w2.heap.size≤b:=hb;omega)) hor.size (fun b _ hb=>Nat.le_trans s02 hb)⟩,Oth.below (B02.out.trans (hbW.mono s02)) hor (by omega) (Nat.le_trans s02 hbW.size)⟩
  clear hqr hor g5 g6 hqB hbW HF
  go_wp2_with fail
  go_loopw [18] (fun i wr=>i=.int .i64 0∧wr=s4) (fun i _=>0)
  case atStart=>exact ⟨rfl,by simp⟩
  obtain ⟨rfl,hwx⟩:=hrel
  subst hwx
  go_wp2_with fail
  refine bodyPost_ret (results_proof rfl _ _ _ _ _ _ _ rfl HQ.out) rfl ?_
  exact HZ.out
 clear k1 k2 k3 k4 x0 x1 x2 x3 t0 t1 t2 t3
 obtain ⟨hbW,hBx,hqB,⟨g5,hc5⟩,⟨g6,hc6⟩⟩:=HF.out
 obtain ⟨y0,y1,y2,y3⟩:=cells4t ((hbW.block _ (by omega)).trans Q1.out)
 obtain ⟨z0,z1,z2,z3⟩:=cells4t hqB
 obtain ⟨r1,r2,r3,r4,m1,m2,m3,m4,⟨p0,p1,p2,p3⟩,⟨f0,f1,f2,f3⟩,hqr,hor⟩:=put4 ((hbW.block _ l2).trans Q2.out) (.int .i64 ix) (.slice none 0 0) (.slice A5 N c5) (.slice A6 M c6)
 have HQ:=zH hqr
 have HZ:Hid ((∃A' c' B' d',Ending.returned (.agg #[.int .i64 ix,.slice none 0 0,.slice A5 N c5,.slice A6 M c6])=.returned (.agg #[.int .i64 ix,.slice none 0 0,.slice A' N c',.slice B' M d'])∧N≤c'∧M≤d'∧LinksP (fun b=>w.heap.size≤b) r4 A' l∧LinksP (fun b=>w.heap.size≤b) r4 B' m)∧Below w.heap.size w r4):=zH ⟨⟨A5,c5,A6,c6,rfl,hc5,hc6,g5.keep (fun b hb hlt=>hor.block b hlt (fun e=>by have e:=zO e;have hb:w2.heap.size≤b:=hb;omega)) hor.size (fun b _ hb=>Nat.le_trans s02 hb),g6.keep (fun b hb hlt=>hor.block b hlt (fun e=>by have e:=zO e;have hb:w2.heap.size≤b:=hb;omega)) hor.size (fun b _ hb=>Nat.le_trans s02 hb)⟩,Oth.below (B02.out.trans (hbW.mono s02)) hor (by omega) (Nat.le_trans s02 hbW.size)⟩
 clear hqr hor g5 g6 hqB hbW HF
 go_wp2_with fail
 go_loopw [18] (fun i wr=>i=.int .i64 0∧wr=s4) (fun i _=>0)
 case atStart=>exact ⟨rfl,by simp⟩
 obtain ⟨rfl,hwx⟩:=hrel
 subst hwx
 go_wp2_with fail
 refine bodyPost_ret (results_proof rfl _ _ _ _ _ _ _ rfl HQ.out) rfl ?_
 exact HZ.out
end Go.Proofs.YtadjpadieljjlaaGreat
namespace Lfc
mutual
def Raw.tsm:Raw→Raw→Bool
 | .node k n p xs,.node k' n' p' xs'=>decide (k=k') && decide (p=p') && (decide (n=n') || decide (k=2) || decide (k=3)) && Raw.tsms xs xs'
def Raw.tsms:List Raw→List Raw→Bool
 | [],[]=>true
 | a :: r,a' :: r'=>Raw.tsm a a' && Raw.tsms r r'
 | _,_=>false
end
end Lfc
namespace Go.Proofs.YtadjpadieljjlaaGreat
open Go.RowKit
theorem tsms_spec:∀ (ts us:List Lfc.Raw),Lfc.Raw.tsms ts us=true↔ts.length=us.length∧∀k (h:k<ts.length) (h':k<us.length),Lfc.Raw.tsm ts[k] us[k]=true
 | [],[]=>by simp [Lfc.Raw.tsms]
 | [],_ :: _=>by simp [Lfc.Raw.tsms]
 | _ :: _,[]=>by simp [Lfc.Raw.tsms]
 | a :: r,b :: q=>by
  rw [Lfc.Raw.tsms,Bool.and_eq_true,tsms_spec r q]
  constructor
  ·rintro ⟨h1,h2,h3⟩
   refine ⟨by simp [h2],fun k h h'=>?_⟩
   cases k with
   | zero=>exact h1
   | succ k=>exact h3 k (by simpa using h) (by simpa using h')
  rintro ⟨h1,h2⟩
  exact ⟨h2 0 (by simp) (by simp),by simpa using h1,fun k h h'=>h2 (k+1) (by simpa using h) (by simpa using h')⟩
theorem tsms_false (ts us:List Lfc.Raw) (k:Nat) (h:k<ts.length) (h':k<us.length) (hf:Lfc.Raw.tsm ts[k] us[k]=false):Lfc.Raw.tsms ts us=false:=by
 cases hs:Lfc.Raw.tsms ts us
 ·rfl
 rw [((tsms_spec ts us).1 hs).2 k h h'] at hf;cases hf
theorem tsms_len (ts us:List Lfc.Raw) (h:ts.length≠us.length):Lfc.Raw.tsms ts us=false:=by
 cases hs:Lfc.Raw.tsms ts us
 ·rfl
 exact absurd ((tsms_spec ts us).1 hs).1 h
theorem enters_tsame:∀args w,(callFunc 167 args).run Tryz.prog w=.ok (.enter 167 args) w:=enters_of Tryz.func167 (by kernel_rfl) rfl
def TSameUpto (m:Nat):Prop:=∀ (t u:Lfc.Raw) (v v':Value) (w:World),t.size≤m→TreeV w t v→TreeV w u v' →
  Calls Tryz.prog 167 #[v,v'] w fun e w'=>e=.returned (.bool (Lfc.Raw.tsm t u))∧Below w.heap.size w w'
theorem tEqualFunc_any (m:Nat) (ih:TSameUpto m) (ts us:List Lfc.Raw) (A A':Option Addr) (c c':Nat) (w:World) (hm:Lfc.Raw.sizes ts≤m) (hmax:ts.length≤1000000000) (h:TreesAt w A ts) (h':TreesAt w A' us) :
  Calls Tryz.prog 169 #[.slice A ts.length c,.slice A' us.length c',.func (.func 167) #[] #[]] w fun e w'=>e=.returned (.bool (Lfc.Raw.tsms ts us))∧Below w.heap.size w w':=by
 have he:=enters_tsame
 have IH:=zH ih
 have HA:=zH h
 have HA':=zH h'
 clear ih h h'
 by_cases hl:ts.length=us.length
 ·have hs:=tsms_spec ts us
  have hf:=tsms_false ts us
  have HS:=zH hs
  have HF:=zH hf
  have HL:=zH hl
  generalize Lfc.Raw.tsms ts us=res at *
  rw [←hl]
  clear hs hf hl
  go_enter Tryz.func169,Tryz.ntmps169
  go_wp2_with fail
  go_loopw [17] (fun i wr=>∃k:Nat,k≤ts.length∧i=.int .i64 k∧Below w.heap.size w wr∧Hid (∀j (h:j<ts.length) (h':j<us.length),j<k→Lfc.Raw.tsm ts[j] us[j]=true)) (fun i _=>ts.length-(intOf i).toNat)
  case atStart=>exact ⟨0,by omega,rfl,zB _ _,zH fun j _ _ hj=>by omega⟩
  obtain ⟨k,hk,rfl,hbw,hp⟩:=hrel
  by_cases hlt:k<ts.length
  ·have hlt':k<us.length:=by have:=HL.out;omega
   obtain ⟨b,o,k1,n1,p1,xs,B,c1,rfl,hb,ht,d0,d1,d2,d3,hcu,hB,hT⟩:=(HA.out.below hbw).at_ hlt
   obtain ⟨b',o',k2,n2,p2,ys,B',c2,rfl,hb',ht',e0,e1,e2,e3,hcu',hB',hT'⟩:=(HA'.out.below hbw).at_ hlt'
   have hmem:=Lfc.Raw.sizes_mem ts ts[k] (List.getElem_mem _)
   clear hB hB' ht ht'
   have b1:Below wr.heap.size wr ((wr.alloc (.cells #[.int .i64 k1,S n1,.int .i64 p1,.slice B xs.length c1] 51)).alloc (.cells #[.int .i64 k2,S n2,.int .i64 p2,.slice B' ys.length c2] 51)):=((zB _ _).alloc (zN _) _).alloc (by simp) _
   have hT2:=hT.below b1
   have hT2':=hT'.below b1
   cases hq:Lfc.Raw.tsm ts[k] us[k]
   ·have hres:=HF.out k hlt hlt' hq
    subst hres
    have HQ:=zH hq
    clear hq
    go_wp2_with fail
    refine (IH.out ts[k] us[k] _ _ _ (by omega) hT2 hT2').mono ?_
    rintro e w1 ⟨rfl,hb1⟩
    rw [HQ.out]
    go_wp2_with fail
    go_ret
    exact ⟨rfl,hbw.trans ((b1.mono hbw.size).trans (hb1.mono (Nat.le_trans hbw.size b1.size)))⟩
   have HQ:=zH hq
   clear hq
   go_wp2_with fail
   refine (IH.out ts[k] us[k] _ _ _ (by omega) hT2 hT2').mono ?_
   rintro e w1 ⟨rfl,hb1⟩
   rw [HQ.out]
   go_wp2_with fail
   go_roundw
   case rel =>
    refine ⟨k+1,by omega,by go_num,hbw.trans ((b1.mono hbw.size).trans (hb1.mono (Nat.le_trans hbw.size b1.size))),zH fun j h h' hj=>?_⟩
    rcases Nat.lt_or_ge j k with h1 | h1
    ·exact hp.out j h h' h1
    obtain rfl:j=k:=by omega
    exact HQ.out
   case measure=>simp [intOf];omega
  have hres:=HS.out.2 ⟨HL.out,fun j h h'=>hp.out j h h' (by omega)⟩
  subst hres
  go_wp2_with fail
  go_ret
  exact ⟨rfl,hbw⟩
 rw [tsms_len ts us hl]
 have hne:((ts.length:Int) != (us.length:Int))=true:=by simp;omega
 clear hl
 go_enter Tryz.func169,Tryz.ntmps169
 go_wp2_with fail
 go_ret
 exact ⟨rfl,zB _ _⟩
theorem tSame_upto (m:Nat) (hm:m≤1000000000):TSameUpto m:=by
 induction m with
 | zero=>intro t u v v' w h _ _;have:=t.size_pos;omega
 | succ m ih =>
  intro t u v v' w hsz hv hv'
  obtain ⟨kd,nm,ps,ts⟩:=t
  obtain ⟨kd',nm',ps',us⟩:=u
  obtain ⟨A,c,rfl,hc,hA⟩:=hv.open_
  obtain ⟨A',c',rfl,hc',hA'⟩:=hv'.open_
  simp only [Lfc.Raw.size] at hsz
  have hlen:=Lfc.Raw.sizes_len ts
  obtain ⟨wa,hwa⟩:∃wa,w.alloc (.cells #[.int .i64 kd,S nm,.int .i64 ps,.slice A ts.length c] 51)=wa:=⟨_,rfl⟩
  obtain ⟨wb,hwb⟩:∃wb,wa.alloc (.cells #[.int .i64 kd',S nm',.int .i64 ps',.slice A' us.length c'] 51)=wb:=⟨_,rfl⟩
  have b0:Below w.heap.size w wb:=by rw [←hwb,←hwa];exact ((zB _ _).alloc (zN _) _).alloc (by simp) _
  have qa:=zQ hwa
  have qb:=zQ hwb
  have qab:wb.heap[w.heap.size]?=some (.cells #[.int .i64 kd,S nm,.int .i64 ps,.slice A ts.length c] 51 (0,0)):=by rw [←hwb];exact (zA _ _ _ (zL qa)).trans qa
  have y0:=zC qab 0
  have y1:=zC qab 1
  have y2:=zC qab 2
  have y3:=zC qab 3
  have z0:=zC qb 0
  have z1:=zC qb 1
  have z2:=zC qb 2
  have z3:=zC qb 3
  simp at y0 y1 y2 y3 z0 z1 z2 z3
  have HE:=zH (tEqualFunc_any m (ih (by omega)) ts us A A' c c' wb (by omega) (by omega) (hA.below b0) (hA'.below b0))
  have B0:=zH b0
  have HSM:Hid (Lfc.Raw.tsm (.node kd nm ps ts) (.node kd' nm' ps' us)=(decide (kd=kd') && decide (ps=ps') && (decide (nm=nm') || decide (kd=2) || decide (kd=3)) && Lfc.Raw.tsms ts us)):=zH (by rw [Lfc.Raw.tsm])
  obtain ⟨res,hres⟩:∃res,Lfc.Raw.tsms ts us=res:=⟨_,rfl⟩
  rw [hres] at HSM HE
  have HYES:Hid ((kd=kd'∧ps=ps'∧(nm=nm'∨kd=2∨kd=3))→(decide (kd=kd') && decide (ps=ps') && (decide (nm=nm') || decide (kd=2) || decide (kd=3)) && res)=res):=zH (by rintro ⟨h1,h2,h3 | h3 | h3⟩ <;> simp [h1,h2,h3] <;> simp_all)
  have HNO:Hid (¬ (kd=kd'∧ps=ps'∧(nm=nm'∨kd=2∨kd=3))→(decide (kd=kd') && decide (ps=ps') && (decide (nm=nm') || decide (kd=2) || decide (kd=3)) && res)=false):=zH (by
   intro h
   rw [Bool.and_eq_false_iff]
   left
   rw [←Bool.not_eq_true]
   intro h2
   simp only [Bool.and_eq_true,Bool.or_eq_true,decide_eq_true_eq] at h2
   exact h ⟨h2.1.1,h2.1.2,by rcases h2.2 with (h3 | h3) | h3 <;> simp [h3]⟩)
  clear ih hA hA' hv hv' hres b0 qa qb qab
  by_cases h1:kd=kd'
  ·have g1:(kd == kd')=true:=by simp [h1]
   have g1b:(kd != kd')=false:=by simp [h1]
   by_cases h2:ps=ps'
   ·have g2:(ps == ps')=true:=by simp [h2]
    have g2b:(ps != ps')=false:=by simp [h2]
    by_cases h3:nm=nm'
    ·have g3:(nm == nm')=true:=by simp [h3]
     have g3b:(nm != nm')=false:=by simp [h3]
     rw [HSM.out,HYES.out (by exact ⟨h1,h2,.inl h3⟩)]
     clear HSM HYES HNO h1 h2 h3
     go_enter Tryz.func167,Tryz.ntmps167
     go_wp2_with fail
     refine HE.out.mono ?_
     rintro e w1 ⟨rfl,hb1⟩
     go_wp2_with fail
     go_ret
     exact ⟨rfl,B0.out.trans (hb1.mono B0.out.size)⟩
    have g3:(nm == nm')=false:=by simp [h3]
    have g3b:(nm != nm')=true:=by simp [h3]
    by_cases h4:kd=2
    ·have g4:(kd == 2)=true:=by simp [h4]
     have g4b:(kd != 2)=false:=by simp [h4]
     rw [HSM.out,HYES.out (by exact ⟨h1,h2,.inr (.inl h4)⟩)]
     clear HSM HYES HNO h1 h2 h3 h4
     go_enter Tryz.func167,Tryz.ntmps167
     go_wp2_with fail
     refine HE.out.mono ?_
     rintro e w1 ⟨rfl,hb1⟩
     go_wp2_with fail
     go_ret
     exact ⟨rfl,B0.out.trans (hb1.mono B0.out.size)⟩
    have g4:(kd == 2)=false:=by simp [h4]
    have g4b:(kd != 2)=true:=by simp [h4]
    by_cases h5:kd=3
    ·have g5:(kd == 3)=true:=by simp [h5]
     have g5b:(kd != 3)=false:=by simp [h5]
     rw [HSM.out,HYES.out (by exact ⟨h1,h2,.inr (.inr h5)⟩)]
     clear HSM HYES HNO h1 h2 h3 h4 h5
     go_enter Tryz.func167,Tryz.ntmps167
     go_wp2_with fail
     refine HE.out.mono ?_
     rintro e w1 ⟨rfl,hb1⟩
     go_wp2_with fail
     go_ret
     exact ⟨rfl,B0.out.trans (hb1.mono B0.out.size)⟩
    have g5:(kd == 3)=false:=by simp [h5]
    have g5b:(kd != 3)=true:=by simp [h5]
    rw [HSM.out,HNO.out (by rintro ⟨_,_,h | h | h⟩;exact h3 h;exact h4 h;exact h5 h)]
    clear HSM HYES HNO HE h1 h2 h3 h4 h5
    go_enter Tryz.func167,Tryz.ntmps167
    go_wp2_with fail
    go_ret
    exact ⟨rfl,B0.out⟩
   have g2:(ps == ps')=false:=by simp [h2]
   have g2b:(ps != ps')=true:=by simp [h2]
   rw [HSM.out,HNO.out (by exact fun h=>h2 h.2.1)]
   clear HSM HYES HNO HE h1 h2
   go_enter Tryz.func167,Tryz.ntmps167
   go_wp2_with fail
   go_ret
   exact ⟨rfl,B0.out⟩
  have g1:(kd == kd')=false:=by simp [h1]
  have g1b:(kd != kd')=true:=by simp [h1]
  rw [HSM.out,HNO.out (by exact fun h=>h1 h.1)]
  clear HSM HYES HNO HE h1
  go_enter Tryz.func167,Tryz.ntmps167
  go_wp2_with fail
  go_ret
  exact ⟨rfl,B0.out⟩
end Go.Proofs.YtadjpadieljjlaaGreat
namespace Go.Proofs.YtadjpadieljjlaaGreat
open Go.RowKit Go.Maps
theorem oFollows1_any (Bx:Nat) (F0 A0 L R:Option Addr) (f0:Nat) (ks:List Int) (c0:Nat) (ts us:List Lfc.Raw) (cl cr:Nat) (t u r:Lfc.Raw) (vt vr:Value) (q:List Int) (qq:Nat→Prop) (A:Option Addr) (c:Nat) (w:World)
  (hks:ks.length≤1000000) (hP:ProvO w Bx F0 A0 L R 0 f0 ks c0 ts us cl cr) (hst:t.size≤1000000) (hsu:u.size≤1000000) (hsr:r.size≤1000000) (hql:q.length≤1000000) (hq:q.length≠0) (hv:TreeV w t vt) (hvr:TreeV w r vr) (hl:LinksP qq w A [⟨1,u,q,0⟩]) (hfit:Lfc.Raw.fits ks t u q=true) (hsm:Lfc.Raw.tsm u r=true) (huk:∀k n p ts,u=.node k n p ts→k≠0) :
  Calls Tryz.prog 162 #[.pointer (some ⟨Bx,0,none⟩),vt,vr,.slice A 1 c] w fun e w'=>e=.returned (.int .i64 2)∧Below w.heap.size w w':=by
 have HV:=zH hv
 have HVR:=zH hvr
 obtain ⟨At,ct,kd,nm,ps,xs,hT,rfl⟩:∃A c kd nm ps xs,t=.node kd nm ps xs∧vt=.agg #[.int .i64 kd,S nm,.int .i64 ps,.slice A (List.length xs) c]:=by
  obtain ⟨kd,nm,ps,ts⟩:=t
  obtain ⟨A,c,rfl,hc,hA⟩:=hv.open_
  exact ⟨A,c,kd,nm,ps,ts,rfl,rfl⟩
 obtain ⟨Ar,cr',kd',nm',ps',ys,hU,rfl⟩:∃A c kd nm ps xs,r=.node kd nm ps xs∧vr=.agg #[.int .i64 kd,S nm,.int .i64 ps,.slice A (List.length xs) c]:=by
  obtain ⟨kd,nm,ps,ts⟩:=r
  obtain ⟨A,c,rfl,hc,hA⟩:=hvr.open_
  exact ⟨A,c,kd,nm,ps,ts,rfl,rfl⟩
 obtain ⟨b,o,rfl,hb,_,hall⟩:=hl (by simp)
 obtain ⟨ku,nu,pu,zs,Au,cu,Ap,cp,he,d0,d1,d2,d3,d4,d5,d6,hcp,hip,htv⟩:=hall 0 (by simp)
 simp only [List.getElem_cons_zero] at he d0 d5 d6 hcp hip htv
 simp only [Nat.zero_mul,Nat.add_zero] at d0 d1 d2 d3 d4 d5 d6
 have hku:ku≠0:=huk _ _ _ _ he
 have hku1:(ku == 0)=false:=by simpa using hku
 have hku2:decide (ku=0)=false:=by simpa using hku
 have hq1:decide ((q.length:Int)>0)=true:=by rw [decide_eq_true_eq];omega
 have hq2:decide ((0:Int)<(q.length:Int))=true:=by rw [decide_eq_true_eq];omega
 have hq3:decide (q.length>0)=true:=by rw [decide_eq_true_eq];omega
 have hq4:decide (0<q.length)=true:=by rw [decide_eq_true_eq];omega
 obtain ⟨w1,hw1⟩:∃w1,w.alloc (.cells #[.int .i64 kd,S nm,.int .i64 ps,.slice At xs.length ct] 51)=w1:=⟨_,rfl⟩
 obtain ⟨w2,hw2⟩:∃w2,w1.alloc (.cells #[.int .i64 kd',S nm',.int .i64 ps',.slice Ar ys.length cr'] 51)=w2:=⟨_,rfl⟩
 obtain ⟨w3,hw3⟩:∃w3,w2.alloc (.cells #[.int .i64 1,.int .i64 ku,S nu,.int .i64 pu,.slice Au zs.length cu,.slice Ap q.length cp,.int .i64 0] 93)=w3:=⟨_,rfl⟩
 have b1:=zG hw1
 have b2:=zG hw2
 have b3:=zG hw3
 have q1:=zQ hw1
 have q2:=zQ hw2
 have q3:=zQ hw3
 have l1:=zL q1
 have l2:=zL q2
 have l3:=zL q3
 have b13:Below w1.heap.size w1 w3:=b2.trans (b3.mono (by omega))
 have b02:Below w.heap.size w w2:=b1.trans (b2.mono (by omega))
 have b03:Below w.heap.size w w3:=b1.trans (b13.mono (by omega))
 have s03:w.heap.size≤w3.heap.size:=by omega
 have Q1:=zH ((b13.block _ l1).trans q1)
 have Q2:=zH ((b3.block _ l2).trans q2)
 have Q3:=zH q3
 have B03:=zH b03
 have f0':=(b02.cell (p:=⟨b,o,none⟩) hb).trans d0
 have f1':=(b02.cell (p:=⟨b,o+1,none⟩) hb).trans d1
 have f2':=(b02.cell (p:=⟨b,o+2,none⟩) hb).trans d2
 have f3':=(b02.cell (p:=⟨b,o+3,none⟩) hb).trans d3
 have f4':=(b02.cell (p:=⟨b,o+4,none⟩) hb).trans d4
 have f5':=(b02.cell (p:=⟨b,o+5,none⟩) hb).trans d5
 have f6':=(b02.cell (p:=⟨b,o+6,none⟩) hb).trans d6
 have HP3:=zH (hP.below b03)
 have SC:Hid (∀W,Below w3.heap.size w3 W→W.cell? ⟨Bx,1,none⟩=some (.slice A0 ks.length c0)∧(W.cell? ⟨w.heap.size,0,none⟩=some (.int .i64 kd)∧W.cell? ⟨w.heap.size,1,none⟩=some (S nm)∧W.cell? ⟨w.heap.size,2,none⟩=some (.int .i64 ps)∧W.cell? ⟨w.heap.size,3,none⟩=some (.slice At xs.length ct))∧(W.cell? ⟨w2.heap.size,0,none⟩=some (.int .i64 1)∧W.cell? ⟨w2.heap.size,1,none⟩=some (.int .i64 ku)∧W.cell? ⟨w2.heap.size,2,none⟩=some (S nu)∧W.cell? ⟨w2.heap.size,3,none⟩=some (.int .i64 pu)∧W.cell? ⟨w2.heap.size,4,none⟩=some (.slice Au zs.length cu)∧W.cell? ⟨w2.heap.size,5,none⟩=some (.slice Ap q.length cp)∧W.cell? ⟨w2.heap.size,6,none⟩=some (.int .i64 0))):=zH (fun W hW=>by
  have e:=(hW.block _ l3).trans Q3.out
  exact ⟨(HP3.out.below hW).kinds,cells4t ((hW.block _ (by omega)).trans Q1.out),zC e 0,zC e 1,zC e 2,zC e 3,zC e 4,zC e 5,zC e 6⟩)
 have CF:Hid (∀W,Below w3.heap.size w3 W→Calls Tryz.prog 32 #[.agg #[.int .i64 kd,S nm,.int .i64 ps,.slice At xs.length ct],.agg #[.int .i64 ku,S nu,.int .i64 pu,.slice Au zs.length cu],.slice Ap q.length cp,.slice A0 ks.length c0] W fun e w'=>e=.returned (.bool true)∧Below W.heap.size W w'):=zH (fun W hW=>by
  have hbW:=b03.trans (hW.mono s03)
  have:=oFits_any t u _ _ q Ap cp ks A0 c0 W hql hks hst hsu (hip.toO.below hbW) (HP3.out.ks.below hW) (HV.out.below hbW) (htv.toV.below hbW)
  rwa [hfit] at this)
 have CS:Hid (∀W,Below w.heap.size w W→Calls Tryz.prog 167 #[.agg #[.int .i64 ku,S nu,.int .i64 pu,.slice Au zs.length cu],.agg #[.int .i64 kd',S nm',.int .i64 ps',.slice Ar ys.length cr']] W fun e w'=>e=.returned (.bool true)∧Below W.heap.size W w'):=zH (fun W hW=>by
  have:=tSame_upto _ (Nat.le_trans hsu (by decide)) u r _ _ W (zN _) (htv.toV.below hW) (HVR.out.below hW)
  rwa [hsm] at this)
 have G0:Below w3.heap.size w3 w3.drew:=(zB _ _).drew
 have aa:∀W W',Below w3.heap.size w3 W→Below W.heap.size W W'→Below w3.heap.size w3 W':=fun W W' h h'=>h.trans (h'.mono h.size)
 have HW3:=zH hw3
 have HL:=hP.lt
 clear hP hv hvr hl hall he d0 d1 d2 d3 d4 d5 d6 hip htv hfit hsm huk hT hU b1 b2 b3 q1 q2 q3 b13 b02 b03 hq hw3
 go_enter Tryz.func162,Tryz.ntmps162
 go_wp2_with fail
 go_loopw [9,15] (fun s i wr=>(s=.int .i64 1∧i=.int .i64 0∧wr=w2)∨(s=.int .i64 2∧i=.int .i64 1∧Hid (Below w.heap.size w wr∧wr.heap[w.heap.size]?=some (.cells #[.int .i64 ku,S nu,.int .i64 pu,.slice Au zs.length cu] 51 (0,0))∧wr.heap[w1.heap.size]?=some (.cells #[.int .i64 kd',S nm',.int .i64 ps',.slice Ar ys.length cr'] 51 (0,0))))) (fun _ i _=>2-(intOf i).toNat)
 case atStart=>exact .inl ⟨rfl,rfl,by simp⟩
 rcases hrel with ⟨rfl,rfl,hwx⟩ | ⟨rfl,rfl,HI⟩
 ·subst hwx
  obtain ⟨wq,hwq⟩:∃wq,wq=wr:=⟨_,rfl⟩
  subst hwq
  go_upto_region 5 with fail
  rw [HW3.out]
  obtain ⟨x0,⟨y0,y1,y2,y3⟩,⟨z0,z1,z2,z3,z4,z5,z6⟩⟩:=SC.out _ (zB _ _)
  clear hw1 hw2 HW3 f0' f1' f2' f3' f4' f5' f6'
  go_upto_region 7 with fail
  go_region_held3 (fun W=>W.cell? ⟨Bx,1,none⟩=some (.slice A0 ks.length c0)∧(W.cell? ⟨w.heap.size,0,none⟩=some (.int .i64 kd)∧W.cell? ⟨w.heap.size,1,none⟩=some (S nm)∧W.cell? ⟨w.heap.size,2,none⟩=some (.int .i64 ps)∧W.cell? ⟨w.heap.size,3,none⟩=some (.slice At xs.length ct))∧(W.cell? ⟨wq.heap.size,0,none⟩=some (.int .i64 1)∧W.cell? ⟨wq.heap.size,1,none⟩=some (.int .i64 ku)∧W.cell? ⟨wq.heap.size,2,none⟩=some (S nu)∧W.cell? ⟨wq.heap.size,3,none⟩=some (.int .i64 pu)∧W.cell? ⟨wq.heap.size,4,none⟩=some (.slice Au zs.length cu)∧W.cell? ⟨wq.heap.size,5,none⟩=some (.slice Ap q.length cp)∧W.cell? ⟨wq.heap.size,6,none⟩=some (.int .i64 0)))
   (first | exact SC.out _ G0 | (refine SC.out _ ?_;assumption))
   ((go_at_call 32;((with_reducible refine (CF.out _ ?_).mono ?_));assumption;rintro e w5 ⟨rfl,b5'⟩;have b5:=aa _ _ (by assumption) b5'))
  all_goals
   clear x0 y0 y1 y2 y3 z0 z1 z2 z3 z4 z5 z6
   obtain ⟨x0,⟨y0,y1,y2,y3⟩,⟨z0,z1,z2,z3,z4,z5,z6⟩⟩:=SC.out _ b5
   obtain ⟨s1,s2,s3,s4,k1,k2,k3,k4,⟨p0,p1,p2,p3⟩,⟨t0,t1,t2,t3⟩,hq4',ho⟩:=put4 ((b5.block _ (by omega)).trans Q1.out) (.int .i64 ku) (S nu) (.int .i64 pu) (.slice Au zs.length cu)
   have HN:Hid (Below w.heap.size w s4∧s4.heap[w.heap.size]?=some (.cells #[.int .i64 ku,S nu,.int .i64 pu,.slice Au zs.length cu] 51 (0,0))∧s4.heap[w1.heap.size]?=some (.cells #[.int .i64 kd',S nm',.int .i64 ps',.slice Ar ys.length cr'] 51 (0,0))):=zH ⟨Oth.below (B03.out.trans (b5.mono s03)) ho (zN _) (Nat.le_trans s03 b5.size),hq4',ho.heap ((b5.block _ (by omega)).trans Q2.out) (by omega)⟩
   clear hq4' ho b5 b5'
   go_wp2_with fail
   go_roundw
   case rel=>exact .inr ⟨rfl,rfl,HN⟩
   case measure=>simp [intOf]
 obtain ⟨hbw,hq1',hq2'⟩:=HI.out
 obtain ⟨y0,y1,y2,y3⟩:=cells4t hq1'
 obtain ⟨z0,z1,z2,z3⟩:=cells4t hq2'
 have CSW:=zH (CS.out _ hbw)
 have HBW:=zH hbw
 clear hbw hq1' hq2' HI hw1 hw2
 go_wp2_with fail
 refine CSW.out.mono ?_
 rintro e w5 ⟨rfl,b5⟩
 have HZ:=zH (HBW.out.trans (b5.mono HBW.out.size))
 go_wp2_with fail
 go_ret
 exact ⟨rfl,HZ.out⟩
end Go.Proofs.YtadjpadieljjlaaGreat
namespace Go.Proofs.YtadjpadieljjlaaGreat
open Go.RowKit
theorem oArgVerify1_any (q:List Int) (qq:Nat→Prop) (C Bk:Option Addr) (cC dk:Nat) (Bx:Nat) (F0 A0 L R:Option Addr) (f0:Nat) (ks:List Int) (c0:Nat) (ts us:List Lfc.Raw) (cl cr i j:Nat) (w:World) (hks:ks.length≤1000000) (hP:ProvO w Bx F0 A0 L R 0 f0 ks c0 ts us cl cr) (hi:i<ts.length) (hj:j<us.length) (hsi:ts[i].size≤1000000) (hsj:us[j].size≤1000000) (hil:i≤1000000) (hjl:j≤1000000) (hql:q.length≤1000000) (hq:q.length≠0) (hl:LinksP qq w C [⟨1,us[j],q,0⟩]) (hfit:Lfc.Raw.fits ks ts[i] us[j] q=true) (hsm:Lfc.Raw.tsm us[j] us[j]=true) (huk:∀k n p ts,us[j]=.node k n p ts→k≠0) :
  Calls Tryz.prog 159 #[.agg #[.int .i64 (i:Int),.int .i64 (j:Int)],.pointer (some ⟨Bx,0,none⟩),.int .i64 1,.agg #[.int .i64 0,.slice none 0 0,.slice C 1 cC,.slice Bk 0 dk]] w fun e w'=>e=.returned (.bool true)∧Below w.heap.size w w':=by
 obtain ⟨b,o,k1,n1,p1,xs,B,c1,rfl,hb,ht,d0,d1,d2,d3,hcu,hB,hT⟩:=hP.ts.at_ hi
 obtain ⟨b',o',k2,n2,p2,ys,B',c2,rfl,hb',ht',e0,e1,e2,e3,hcu',hB',hT'⟩:=hP.us.at_ hj
 obtain ⟨t,hT0⟩:∃t,ts[i]=t:=⟨_,rfl⟩
 obtain ⟨u,hU0⟩:∃u,us[j]=u:=⟨_,rfl⟩
 rw [hT0] at hsi hT hfit
 rw [hU0] at hsj hT' hfit hsm huk hl
 have HP:=zH hP
 have HT:=zH hT
 have HT':=zH hT'
 obtain ⟨nts,hnts⟩:∃n,ts.length=n:=⟨_,rfl⟩
 obtain ⟨nus,hnus⟩:∃n,us.length=n:=⟨_,rfl⟩
 obtain ⟨w1,hw1⟩:∃w1,w.alloc (.cells #[.int .i64 (i:Int),.int .i64 (j:Int)] 123)=w1:=⟨_,rfl⟩
 obtain ⟨w2,hw2⟩:∃w2,w1.alloc (.cells #[.int .i64 0,.slice none 0 0,.slice C 1 cC,.slice Bk 0 dk] 39)=w2:=⟨_,rfl⟩
 have b1:=zG hw1
 have b2:=zG hw2
 have q1:=zQ hw1
 have q2:=zQ hw2
 have l1:=zL q1
 have l2:=zL q2
 have b02:Below w.heap.size w w2:=b1.trans (b2.mono (by omega))
 have B02:=zH b02
 have s02:w.heap.size≤w2.heap.size:=by omega
 have Q2:=zH q2
 obtain ⟨y0,y1⟩:=cells2e ((b2.block _ l1).trans q1)
 have hp2:=hP.below b02
 have x2:=hp2.left
 have x3:=hp2.right
 rw [hnts] at x2 hi
 rw [hnus] at x3 hj
 have f0':=(b02.cell (p:=⟨b,o+i*4,none⟩) hb).trans d0
 have f1':=(b02.cell (p:=⟨b,o+i*4+1,none⟩) hb).trans d1
 have f2':=(b02.cell (p:=⟨b,o+i*4+2,none⟩) hb).trans d2
 have f3':=(b02.cell (p:=⟨b,o+i*4+3,none⟩) hb).trans d3
 have g0':=(b02.cell (p:=⟨b',o'+j*4,none⟩) hb').trans e0
 have g1':=(b02.cell (p:=⟨b',o'+j*4+1,none⟩) hb').trans e1
 have g2':=(b02.cell (p:=⟨b',o'+j*4+2,none⟩) hb').trans e2
 have g3':=(b02.cell (p:=⟨b',o'+j*4+3,none⟩) hb').trans e3
 have SX:Hid ((w2.cell? ⟨Bx,2,none⟩=some (.slice (some ⟨b,o,none⟩) nts cl)∧w2.cell? ⟨Bx,3,none⟩=some (.slice (some ⟨b',o',none⟩) nus cr))∧(w2.cell? ⟨w.heap.size,0,none⟩=some (.int .i64 (i:Int))∧w2.cell? ⟨w.heap.size,1,none⟩=some (.int .i64 (j:Int)))∧(w2.cell? ⟨b,o+i*4,none⟩=some (.int .i64 k1)∧w2.cell? ⟨b,o+i*4+1,none⟩=some (S n1)∧w2.cell? ⟨b,o+i*4+2,none⟩=some (.int .i64 p1)∧w2.cell? ⟨b,o+i*4+3,none⟩=some (.slice B xs.length c1))∧(w2.cell? ⟨b',o'+j*4,none⟩=some (.int .i64 k2)∧w2.cell? ⟨b',o'+j*4+1,none⟩=some (S n2)∧w2.cell? ⟨b',o'+j*4+2,none⟩=some (.int .i64 p2)∧w2.cell? ⟨b',o'+j*4+3,none⟩=some (.slice B' ys.length c2))):=zH ⟨⟨x2,x3⟩,⟨y0,y1⟩,⟨f0',f1',f2',f3'⟩,⟨g0',g1',g2',g3'⟩⟩
 have m1:=World.new_ne w2 _ x2
 have m2:=World.new_ne w2 _ y0
 have m3:=World.new_ne w2 _ f0'
 have m4:=World.new_ne w2 _ g0'
 simp only at m1 m2 m3 m4
 have hi0:(0:Int)≤(i:Int):=Int.natCast_nonneg _
 have hi1:(i:Int)<(nts:Int):=by omega
 have hj0:(0:Int)≤(j:Int):=Int.natCast_nonneg _
 have hj1:(j:Int)<(nus:Int):=by omega
 have HPX:=zH (And.intro hl (And.intro hfit (And.intro hsm (And.intro huk hq))))
 clear hl hfit hsm huk hq
 clear hT hT' hP hp2 q1 q2 b1 b2 b02 ht ht' hB hB' d0 d1 d2 d3 e0 e1 e2 e3 hT0 hU0 hnts hnus
 go_enter Tryz.func159,Tryz.ntmps159
 go_upto_region 1 with fail
 clear hw1 hw2
 go_region_held3 (fun W=>(W.cell? ⟨Bx,2,none⟩=some (.slice (some ⟨b,o,none⟩) nts cl)∧W.cell? ⟨Bx,3,none⟩=some (.slice (some ⟨b',o',none⟩) nus cr))∧(W.cell? ⟨w.heap.size,0,none⟩=some (.int .i64 (i:Int))∧W.cell? ⟨w.heap.size,1,none⟩=some (.int .i64 (j:Int)))∧(W.cell? ⟨b,o+i*4,none⟩=some (.int .i64 k1)∧W.cell? ⟨b,o+i*4+1,none⟩=some (S n1)∧W.cell? ⟨b,o+i*4+2,none⟩=some (.int .i64 p1)∧W.cell? ⟨b,o+i*4+3,none⟩=some (.slice B xs.length c1))∧(W.cell? ⟨b',o'+j*4,none⟩=some (.int .i64 k2)∧W.cell? ⟨b',o'+j*4+1,none⟩=some (S n2)∧W.cell? ⟨b',o'+j*4+2,none⟩=some (.int .i64 p2)∧W.cell? ⟨b',o'+j*4+3,none⟩=some (.slice B' ys.length c2)))
  (first | exact SX.out | go_keep)
  (fail)
 ·obtain ⟨w5,hw5⟩:∃w5,((w2.alloc (.cells #[.int .i64 k1,S n1,.int .i64 p1,.slice B xs.length c1] 51)).alloc (.cells #[.int .i64 k2,S n2,.int .i64 p2,.slice B' ys.length c2] 51)).drew=w5:=⟨_,rfl⟩
  rw [hw5]
  have b5:Below w2.heap.size w2 w5:=by rw [←hw5];exact (((zB _ _).alloc (zN _) _).alloc (by simp) _).drew
  have s5:w5.heap.size=w2.heap.size+2:=by rw [←hw5];simp [World.drew]
  have qa:w5.heap[w2.heap.size]?=some (.cells #[.int .i64 k1,S n1,.int .i64 p1,.slice B xs.length c1] 51 (0,0)):=by
   rw [←hw5]
   exact (Below.heap_alloc _ _ _ (by simp)).trans (zW _ _)
  have qb:w5.heap[w2.heap.size+1]?=some (.cells #[.int .i64 k2,S n2,.int .i64 p2,.slice B' ys.length c2] 51 (0,0)):=by
   rw [←hw5]
   exact two_alloc _ _ _
  obtain ⟨y0,y1,y2,y3⟩:=cells4t qa
  obtain ⟨z0,z1,z2,z3⟩:=cells4t qb
  have b05:=B02.out.trans (b5.mono s02)
  have hp5:=HP.out.below b05
  have CH:=zH (oFollows1_any Bx F0 A0 _ _ f0 ks c0 ts us cl cr t u u _ _ q qq C cC w5 hks hp5 hsi hsj hsj hql HPX.out.2.2.2.2 (HT.out.below b05) (HT'.out.below b05) (HPX.out.1.below b05) HPX.out.2.1 HPX.out.2.2.1 HPX.out.2.2.2.1)
  have B5:=zH b05
  have Q5:=zH ((b5.block _ l2).trans Q2.out)
  obtain ⟨x0,x1,x2,x3⟩:=cells4t Q5.out
  clear hw5 hp5 qa qb b5 b05
  go_wp2_with fail
  refine CH.out.mono ?_
  rintro e w6 ⟨rfl,b6⟩
  clear x0 x1 x2 x3
  obtain ⟨x0,x1,x2,x3⟩:=cells4t ((b6.block _ (by omega)).trans Q5.out)
  have HZ:=zH (B5.out.trans (b6.mono B5.out.size))
  clear b6 CH y0 y1 y2 y3 z0 z1 z2 z3
  go_wp2_with fail
  go_ret
  exact ⟨rfl,HZ.out⟩
 obtain ⟨w5,hw5⟩:∃w5,((w2.alloc (.cells #[.int .i64 k2,S n2,.int .i64 p2,.slice B' ys.length c2] 51)).alloc (.cells #[.int .i64 k1,S n1,.int .i64 p1,.slice B xs.length c1] 51)).drew=w5:=⟨_,rfl⟩
 rw [hw5]
 have b5:Below w2.heap.size w2 w5:=by rw [←hw5];exact (((zB _ _).alloc (zN _) _).alloc (by simp) _).drew
 have s5:w5.heap.size=w2.heap.size+2:=by rw [←hw5];simp [World.drew]
 have qa:w5.heap[w2.heap.size]?=some (.cells #[.int .i64 k2,S n2,.int .i64 p2,.slice B' ys.length c2] 51 (0,0)):=by
  rw [←hw5]
  exact (Below.heap_alloc _ _ _ (by simp)).trans (zW _ _)
 have qb:w5.heap[w2.heap.size+1]?=some (.cells #[.int .i64 k1,S n1,.int .i64 p1,.slice B xs.length c1] 51 (0,0)):=by
  rw [←hw5]
  exact two_alloc _ _ _
 obtain ⟨y0,y1,y2,y3⟩:=cells4t qb
 obtain ⟨z0,z1,z2,z3⟩:=cells4t qa
 have b05:=B02.out.trans (b5.mono s02)
 have hp5:=HP.out.below b05
 have CH:=zH (oFollows1_any Bx F0 A0 _ _ f0 ks c0 ts us cl cr t u u _ _ q qq C cC w5 hks hp5 hsi hsj hsj hql HPX.out.2.2.2.2 (HT.out.below b05) (HT'.out.below b05) (HPX.out.1.below b05) HPX.out.2.1 HPX.out.2.2.1 HPX.out.2.2.2.1)
 have B5:=zH b05
 have Q5:=zH ((b5.block _ l2).trans Q2.out)
 obtain ⟨x0,x1,x2,x3⟩:=cells4t Q5.out
 clear hw5 hp5 qa qb b5 b05
 go_wp2_with fail
 refine CH.out.mono ?_
 rintro e w6 ⟨rfl,b6⟩
 clear x0 x1 x2 x3
 obtain ⟨x0,x1,x2,x3⟩:=cells4t ((b6.block _ (by omega)).trans Q5.out)
 have HZ:=zH (B5.out.trans (b6.mono B5.out.size))
 clear b6 CH y0 y1 y2 y3 z0 z1 z2 z3
 go_wp2_with fail
 go_ret
 exact ⟨rfl,HZ.out⟩
end Go.Proofs.YtadjpadieljjlaaGreat
