/- Parts of the proof that no input makes the law false: PaBind, PaOpd2, PaRec, TokLaw, TokLaw2, PaTok, PaErr. -/
import Derived.Test.YthajalgkjonaaaaGreatDoorBxAJ
set_option linter.unusedVariables false
set_option linter.unusedSimpArgs false
set_option maxRecDepth 100000
set_option maxHeartbeats 32000000
namespace Go.Proofs.YthajalgkjonaaaaGreatDoor
open Go.RowKit _root_.Lfc
structure BndI(w:World)(P:Nat)(G:Hd)(p:Lfc.PE)(k B:Nat)(kd:Int)(n:List UInt8)(pos:Nat)(l:List Raw)(A:Option Addr)(c:Nat)(xs:List Value)(W:World):Prop where
  pw:PW W P G p k
  le:k≤p.toks.length
  oth:Oth P w W
  res:W.heap[w.heap.size]?=some (.cells #[.int .i64 0,S [],.int .i64 0,.slice none 0 0,.bool false] 129 (0,0))
  lt:w.heap.size<B
  box:W.heap[B]?=some (.cells #[.int .i64 kd,S n,.int .i64 (pos:Int),.slice A l.length c] 46 (0,0))
  own:W.ownsRow (B+1) 46 4 (.slice A l.length c) l.length xs
  row:RowP (fun b=>w.heap.size<b∧b≠B∧some b≠(Value.slice A l.length c).ownBlock) W l xs
  name:n.length≤1000000
theorem BndI.step{w W W':World}{P:Nat}{G:Hd}{p:Lfc.PE}{k k' B:Nat}{kd:Int}{n:List UInt8}{pos:Nat}{l:List Raw}{A:Option Addr}{c:Nat}{xs:List Value}(h:BndI w P G p k B kd n pos l A c xs W)(hP:P<w.heap.size)(h':PW W' P G p k')(hk:k'≤p.toks.length)(o:Oth P W W'):BndI w P G p k' B kd n pos l A c xs W':=by
  have hB:=zL h.box;have hlt:=h.lt;refine⟨h',hk,h.oth.trans o,o.heap h.res (by omega),hlt,o.heap h.box (by omega),h.own.kept o (Or.inr (fun e=>by have:=(h.own.lt P e).1;omega)),?_,h.name⟩;exact h.row.keep (fun b hb hlt=>o.block b hlt (fun e=>by have:=zO e;have:=hb.1;omega)) o.size (fun _ _ h=>h)
theorem BndI.push{w W w1 w2 w3:World}{P k0 k k1:Nat}{G:Hd}{p:Lfc.PE}{B:Nat}{kd:Int}{n:List UInt8}{pos:Nat}{l:List Raw}{A A':Option Addr}{c c':Nat}{xs:List Value}{u:Raw}{v0 v1 v2 v3:Value}(h:BndI w P G p k B kd n pos l A c xs W)(h0:PW w P G p k0)(h1:PW w1 P G p k1)(hk1:k1≤p.toks.length)(o1:Oth P W w1)
    (ht:TreeP (fun b=>W.heap.size≤b) w1 u v0 v1 v2 v3) (b2:Below w1.heap.size w1 w2) (hown:w3.ownsRow (B+1) 46 4 (.slice A' (l.length+1) c') (l.length+1) (xs++[v0,v1,v2,v3])) (hg:w2.grownBy w3 (Value.slice A l.length c).ownBlock) (hl:(Value.slice A' (l.length+1) c').ownBlock=(Value.slice A l.length c).ownBlock∨(Value.slice A' (l.length+1) c').ownBlock=some w2.heap.size) :
    w3.heap[B]?=some (.cells #[.int .i64 kd,S n,.int .i64 (pos:Int),.slice A l.length c] 46 (0,0))∧BndI w P G p k1 B kd n pos (l++[u]) A' c' (xs++[v0,v1,v2,v3]) (w3.setCell ⟨B,3,none⟩ (.slice A' (l.length+1) c')):=by
  have hs1:=o1.size;have hs2:=b2.size;have hs3:=hg.size;have hlt:=h.lt;have hBl:=zL h.box;have hP:=h0.lt;obtain⟨v,hv'⟩:∃v,(Value.slice A l.length c)=v:=⟨_,rfl⟩;have hw:=h.own;have hrow:=h.row;rw[hv'] at hg hl hrow;rw[hv'] at hw;have hv:∀b,v.ownBlock=some b→B+1≤b∧b<W.heap.size:=fun b hb=>hw.lt b hb;have ho1:∀j,j<W.heap.size→j≠P→w1.heap[j]?=W.heap[j]?:=fun j hj hne=>o1.block j hj (fun e=>hne (zO e));have hbel:∀j,j<w1.heap.size→some j≠v.ownBlock→w3.heap[j]?=w1.heap[j]?:=fun j hj hne=>(hg.block j (by omega) hne).trans (b2.block j hj);have hb3:w3.heap[B]?=some (.cells #[.int .i64 kd,S n,.int .i64 (pos:Int),.slice A l.length c] 46 (0,0)):=(hbel B (by omega) (fun e=>by have:=(hv B e.symm).1;omega)).trans ((ho1 B hBl (by omega)).trans h.box);refine⟨hb3,?_⟩;obtain⟨w4,hw4⟩:∃w4,w3.setCell ⟨B,3,none⟩ (.slice A' (l.length+1) c')=w4:=⟨_,rfl⟩;have o4:Oth B w3 w4:=zV hw4;have hs4:=o4.size;rw[hw4];have h4:∀j,j<w1.heap.size→j≠B→some j≠v.ownBlock→w4.heap[j]?=w1.heap[j]?:=fun j hj hB hne=>(o4.block j (by omega) (fun e=>hB (zO e))).trans (hbel j hj hne);have o3:Oth P w w4:=⟨o4.os.trans (hg.os.trans (b2.os.trans (o1.os.trans h.oth.os))),o4.tape.trans (hg.tape.trans (b2.tape.trans (o1.tape.trans h.oth.tape))),o4.output.trans (hg.output.trans (b2.output.trans (o1.output.trans h.oth.output))),by have:=h.oth.size;omega,fun j hj hne=>by
    rw[h4 j (by omega) (by omega) (fun e=>by have:=(hv j e.symm).1;omega),o1.block j (by omega) hne];exact h.oth.block j hj hne⟩
  have hl4:(l++[u]).length=l.length+1:=by simp
  have hq:∀b,b<w1.heap.size→some b≠v.ownBlock→some b≠(Value.slice A' (l++[u]).length c').ownBlock:=fun b hb hn=>by
    rw[hl4];rcases hl with e | e
    · rw[e];exact hn
    rw[e];intro e';have:=zO e';omega
  refine⟨h0.to o3 ((h4 P (by omega) (by omega) (fun e=>by have:=(hv P e.symm).1;omega)).trans h1.1),hk1,o3,(h4 _ (by omega) (by omega) (fun e=>by have:=(hv _ e.symm).1;omega)).trans ((ho1 _ (by omega) (by omega)).trans h.res),hlt,?_,?_,?_,h.name⟩
  · rw[hl4,←hw4];exact set3 hb3
  · rw[hl4]
    exact hown.kept o4 (Or.inr (fun e=>by have:=(hown.lt B e).1;omega))
  refine RowP.append (RowP.one (TreeP.keep (w:=w1) (fun b hb hlt=>h4 b hlt (by omega) (fun e=>by have:=(hv b e.symm).2;omega)) (by omega) (fun b hlt hb=>⟨by omega,by omega,hq b hlt (fun e=>by have:=(hv b e.symm).2;omega)⟩) _ _ _ _ _ ht)) ?_;exact hrow.keep (fun b hb hlt=>(h4 b (by omega) hb.2.1 hb.2.2).trans (ho1 b hlt (by have:=hb.1;omega))) (by omega) (fun b hlt hb=>⟨hb.1,hb.2.1,hq b (by omega) hb.2.2⟩)
theorem BndI.nameTo{w W:World}{P k0:Nat}{G:Hd}{p:Lfc.PE}{k B:Nat}{kd:Int}{n0:List UInt8}{pos:Nat}{l:List Raw}{A:Option Addr}{c:Nat}{xs:List Value}(h:BndI w P G p k B kd n0 pos l A c xs W)(h0:PW w P G p k0)(n:List UInt8)(hn:n.length≤1000000):BndI w P G p k B kd n pos l A c xs (W.setCell ⟨B,1,none⟩ (S n)):=by
  have hBl:=zL h.box;have hlt:=h.lt;have hP:=h0.lt;have o:Oth B W (W.setCell ⟨B,1,none⟩ (S n)):=Oth.set _ _;have o':=h.oth.over o (by omega);refine⟨h0.to o' ((o.block P h.pw.lt (fun e=>by have:=zO e;omega)).trans h.pw.1),h.le,o',o.heap h.res (by omega),hlt,set1 h.box,h.own.kept o (Or.inr (fun e=>by have:=(h.own.lt B e).1;omega)),?_,hn⟩;exact h.row.keep (fun b hb hlt=>o.block b hlt (fun e=>hb.2.1 (zO e))) o.size (fun _ _ h=>h)
theorem BndI.tree{w W:World}{P:Nat}{G:Hd}{p:Lfc.PE}{k B:Nat}{kd:Int}{n:List UInt8}{pos:Nat}{l:List Raw}{A:Option Addr}{c:Nat}{xs:List Value}(h:BndI w P G p k B kd n pos l A c xs W)(hl:l≠[]):TreeP (fun b=>w.heap.size<b) W (.node kd n pos l) (.int .i64 kd) (S n) (.int .i64 (pos:Int)) (.slice A l.length c):=by
  rw[TreeP];have hlt:=h.lt;have hc:=own_le h.own;refine⟨rfl,rfl,h.name,rfl,A,c,rfl,hc,fun _=>?_⟩;have hr:RowP (fun b=>w.heap.size<b) W l xs:=h.row.keep (fun _ _ _=>rfl) (zN _) (fun _ _ hb=>hb.1);have hw:=h.own;rcases hw.2 with⟨_,h2⟩ | ⟨g,cap,cur,hv,hbg,hg,_⟩
  · exact absurd (Zz h2) hl
  injection hv with e1 _ e3;subst e1 e3;exact⟨g,0,rfl,zL hg,by omega,hr.lie (own_cells hw)⟩
theorem hlm4{n:Nat}(h:n≤4):n+1≤maxLen∧(n+1)*56≤140737488355328:=⟨by unfold maxLen;omega,by omega⟩
theorem bind_of_expr(p:Lfc.PE)(ok:POk p)(g:Nat->Lfc.PR (Option Opd))(hB:OpdB p g)(hE:ExprC p g)(kind:Int)(end_:List UInt8)(P k:Nat)(G:Hd)(w:World)(hk:k<p.toks.length)(hne:p.bindG g kind end_ k≠.out)(h:PW w P G p k) :
    Calls Tryz.prog 117 #[.pointer (some ⟨P,0,none⟩),zI kind,S end_] w (PRes P G p w (ClsR w) (p.bindG g kind end_ k)):=by
  obtain⟨it,hi,hz0,hz1,hz2⟩:=raw_info;have hP:=h.lt;obtain⟨wa,hwa⟩:∃wa,w.alloc (.cells #[zI 0,S [],zI 0,zS,.bool false] 129)=wa:=⟨_,rfl⟩;have ba:=zG hwa;have qa:=zQ hwa;have hsa:=eq2 (show wa.heap.size=w.heap.size+1 by rw[<-hwa];simp);have CP:=zH (peek_any wa (h.below ba) (Nat.le_of_lt hk) ok);have HW:=zH h;have HE:=zH hE;have HB:=zH hB;have HK:=zH ok;have BA:=zH ba;have QA:=zH qa;have hf2:=tok_f2;have hlen:=ok.len;have HNE:=zH hne;have HPP:Hid (p.bindG g kind end_ k=(p.bindN (k+1)).then fun n k1=>(if p.is k1 2 [58] then(p.exprG g (k1+1)).then fun u k2=>.ok [u] k2 else .ok [] k1).then fun l k2=>(p.punct k2 end_).then fun _ k3=>(p.exprG g k3).then fun u k4=>.ok ⟨.node kind n (p.pk k).pos (l++[u]),true⟩ k4):=zH rfl;generalize (p.pk k).pos=pos at *;clear h hE hB ok ba qa hne;go_enter Tryz.func117,Tryz.ntmps117;go_upto_region 1 with fail;clear hwa;go_upto_region 2 with(go_at_call 63;refine CP.o.mono ?_;rintro e w1⟨rfl,b1⟩);have hs1:=b1.size;have bw1:=BA.o.trans (b1.mono BA.o.size);obtain⟨w2,hw2⟩:∃w2,w1.alloc (.cells #[zI kind,S [],zI (pos:Int),zS] 46)=w2:=⟨_,rfl⟩;have b2:=zG hw2;have q2:=zQ hw2;have hs2:=eq2 (show w2.heap.size=w1.heap.size+1 by rw[<-hw2];simp);rw[hw2];have bw2:zb w w2:=bw1.trans (b2.mono (by omega));have h2:=HW.o.below bw2;have h3:=h2.step (k+1);rw[show((k+1:Nat):Int)=(k:Int)+1 by omega] at h3;obtain⟨_,x1,_,_,xf,_,_,_⟩:=h2.cells;have xf1:=xf 1;obtain⟨w3,hw3⟩:∃w3,w2.setCell ⟨P,1,none⟩ (zI ((k:Int)+1))=w3:=⟨_,rfl⟩;have o3:Oth P w2 w3:=zV hw3;rw[hw3] at h3;obtain⟨B,hBe⟩:∃B,w1.heap.size=B:=⟨_,rfl⟩;have hs3:=o3.size;have I3:Hid (BndI w P G p (k+1) B kind [] pos [] none 0 [] w3):=zH ⟨h3,by omega,(zE bw2).trans o3,o3.heap ((b2.block _ (by omega)).trans ((b1.block _ (by omega)).trans QA.o)) (by omega),by omega,by rw[<-hBe];exact o3.heap q2 (by omega),own_nil _ _ _ _,by rw[RowP],by simp⟩;have CT:=zH (take_any 2 [95] w3 h3 (by omega) HK.o);have hltB:w.heap.size<B:=by omega
  rw[hBe];rw[hBe] at hs2;clear hw2 b2 q2 bw2 h2 h3 xf bw1 o3 hBe;go_upto_region 3 with fail;clear hw3 x1 xf1;go_upto_if 21 with(go_at_call 139;refine CT.o.mono ?_;rintro e w4⟨rfl,h4,o4⟩);have I4:=zH (I3.o.step hP h4 (by
    split
    · rename_i hi1;have:=p.is_lt hi1;omega
    omega) o4)
  clear h4 o4;go_cut [] (fun wx=>∃(n:List UInt8)(k2:Nat),Hid (p.bindN (k+1)=.ok n k2)/\Hid (BndI w P G p k2 B kind n pos [] none 0 [] wx));case first =>
    cases hb:p.is (k+1) 2 [95]
    · rw[hb] at I4
      simp only[Bool.false_eq_true,if_false] at I4;have hcn:=name_at w4 I4.o.pw I4.o.le HK.o;have HBN:Hid (p.bindN (k+1)=p.name (k+1)):=zH (by unfold Lfc.PE.bindN;rw[if_neg (by rw[hb];simp)]);clear hb CT;cases hn:p.name (k+1) with
      |out=>exact absurd (by rw[HPP.o,HBN.o,hn];rfl) HNE.o
      |err cc aa =>
        rw[hn] at hcn;have CN:=zH hcn;have HF:Hid (p.bindG g kind end_ k=.err cc aa):=zH (by rw[HPP.o,HBN.o,hn];rfl);clear hcn hn;go_wp2_with (go_at_call 138;refine CN.o.mono ?_;rintro e w5⟨rfl,o5⟩);rw[HF.o];exact⟨rfl,rfl,I4.o.oth.trans o5⟩
      |ok n k2 =>
        rw[hn] at hcn;have CN:=zH hcn;obtain⟨hn1,hn2,hn3⟩:=p.name_ok hn;have HN:=zH (HBN.o.trans hn);have hnl:n.length<=1000000:=by
          have:=(HK.o.tok _ (List.mem_of_getElem? (PE.pk_of hn1))).1;rw[hn3];omega
        clear hcn hn hn3;go_wp2_with (go_at_call 138;refine CN.o.mono ?_;rintro e w5⟨⟨v,rfl,rfl⟩,h5,o5⟩;have hi5:=I4.o.step hP h5 (by omega) o5;have I5:=zH (hi5.nameTo HW.o n hnl);have y1:=zC hi5.box 1;have f1:=zF hi5.box 1;clear hi5 h5 o5);go_meet;exact⟨n,k2,HN,I5⟩
    rw[hb] at I4;simp only[if_true] at I4;have HN:Hid (p.bindN (k+1)=.ok [95] (k+1+1)):=zH (by unfold Lfc.PE.bindN;rw[if_pos hb]);have I5:=zH (I4.o.nameTo HW.o [95] (by simp));have y1:=zC I4.o.box 1;have f1:=zF I4.o.box 1;clear hb CT;go_wp2_with fail;go_meet;exact⟨[95],_,HN,I5⟩
  case rest =>
  obtain⟨n,k2,HN,I5⟩:=hcut;clear I3 I4 CT;have CT2:=zH (take_any 2 [58] wc I5.o.pw I5.o.le HK.o);have HP2:Hid (p.bindG g kind end_ k=(if p.is k2 2 [58] then(p.exprG g (k2+1)).then fun u k2=>.ok [u] k2 else .ok [] k2).then fun l k2=>(p.punct k2 end_).then fun _ k3=>(p.exprG g k3).then fun u k4=>.ok ⟨.node kind n pos (l++[u]),true⟩ k4):=zH (by rw[HPP.o,HN.o];rfl);go_upto_if 27 with(go_at_call 139;refine CT2.o.mono ?_;rintro e w6⟨rfl,h6,o6⟩);have I6:=zH (I5.o.step hP h6 (by
    have:=I5.o.le;split
    · rename_i hi1;have:=p.is_lt hi1;omega
    omega) o6)
  have hk2:=I5.o.le;clear h6 o6;go_cut [] (fun wx=>∃(l:List Raw)(k3:Nat)(A:Option Addr)(c:Nat)(xs:List Value),l.length<=1/\Hid ((if p.is k2 2 [58] then(p.exprG g (k2+1)).then fun u k2=>(.ok [u] k2:Lfc.PR (List Raw)) else .ok [] k2)=.ok l k3)/\Hid (BndI w P G p k3 B kind n pos l A c xs wx));case first =>
    cases hb:p.is k2 2 [58]
    · rw[hb] at I6
      simp only[Bool.false_eq_true,if_false] at I6;clear CT2;go_wp2_with fail;go_meet;exact⟨[],k2,none,0,[],by simp,zH (by rw[hb];rfl),I6⟩
    rw[hb] at I6;simp only[if_true] at I6;have HX:Hid (p.bindG g kind end_ k=(p.exprG g (k2+1)).then fun u k2=>(p.punct k2 end_).then fun _ k3=>(p.exprG g k3).then fun u' k4=>.ok ⟨.node kind n pos ([u]++[u']),true⟩ k4):=zH (by
      rw[HP2.o,if_pos hb];cases p.exprG g (k2+1) <;> rfl)
    have hne2:p.exprG g (k2+1)≠.out:=PR.then_ne (by have:=HNE.o;rw[HX.o] at this;exact this);have HLM:=hlm4 (n:=([]:List Raw).length) (by simp);have HIF:Hid (∀v k9,p.exprG g (k2+1)=.ok v k9->(if p.is k2 2 [58]=true then((p.exprG g (k2+1)).then fun u k2=>(.ok [u] k2:Lfc.PR (List Raw))) else .ok [] k2)=.ok [v] k9):=zH (fun v k9 h=>by rw[if_pos hb,h];rfl);clear CT2 hb;go_upto_region 7 with fail;have hce:=HE.o P (k2+1) G w6.drew (by have:=I6.o.le;omega) hne2 I6.o.pw.drew;cases hr:p.exprG g (k2+1) with
    |out=>exact absurd hr hne2
    |err cc aa =>
      rw[hr] at hce;have CE:=zH hce;have HFE:Hid (p.bindG g kind end_ k=.err cc aa):=zH (by rw[HX.o,hr];rfl);have z0:zc w6 B 3 (.slice none ([]:List Raw).length 0):=zC I6.o.box 3;clear hce hr;refine wp_region_held_drew (S:=fun W=>zc W B 3 (.slice none ([]:List Raw).length 0)) (by kernel_rfl) z0 (fun hH=>?_);refine tk 0 ?_;refine tk 1 ?_;refine tk 2 ?_;refine rd1 3 (fun K hK=>?_);go_simp;go_at_call 35;refine CE.o.mono ?_;rintro e w9⟨rfl,o9⟩;rw[HFE.o];exact⟨rfl,rfl,I6.o.oth.trans ((Oth.refl _ _).drew.trans o9)⟩
    |ok u k9 =>
      rw[hr] at hce;have CE:=zH hce;obtain⟨hb1,hb2,hb3,_⟩:=exprG_b HB.o hr;have HRU:=zH hr;have z0:zc w6 B 3 (.slice none ([]:List Raw).length 0):=zC I6.o.box 3;have hBW:=zL I6.o.box;have hltB:=I6.o.lt;clear hce hr;go_region_law (first
        |(go_simp;go_at_call 35;refine CE.o.mono ?_;rintro e w9⟨⟨v,rfl,hv⟩,h9,o9⟩;obtain⟨k7,n7,p7,us7,A7,c7,ht7,rfl,hp7⟩:=TreeVP.parts4 hv;have q9:=o9.heap I6.o.box (by omega);have y9:zc w9 B 3 (.slice none ([]:List Raw).length 0):=zC q9 3;have y9a:∀o,(w9.alloc o).cell? ⟨B,3,none⟩=some (.slice none ([]:List Raw).length 0):=fun o=>zC ((zA _ _ _ (zL q9)).trans q9) 3;have hown9:=I6.o.own.drew.kept o9 (Or.inr (fun e=>by have:=(I6.o.own.lt P e).1;omega));have hs9:w6.heap.size<=w9.heap.size:=o9.size;have hs9':B+1<=w9.heap.size:=(by omega))
        |(refine step_append_own_at _ (by rfl) _ _ 32 (by rfl) (B+1) 46 it (.agg #[zI 0,S [],zI 0,zS]) 4 56 Tryz.underlying32 hi hz0 hz1 hz2 rfl (by decide) _ _ _ (by rfl) (hown9.alloc _) ⟨w9.heap.size,0,none⟩ 1 1 [zI k7,S n7,zI p7,.slice A7 us7.length c7] (by rfl) (by rfl) (fun j u h=>cells_new w9 _ rfl [zI k7,S n7,zI p7,.slice A7 us7.length c7] _ j u h) oneCell4 HLM.1 HLM.2 (alloc_le hs9') ?_;intro v' w10 hown10 hg10 hloc10;obtain⟨A10,c10,rfl⟩:=own_form hown10;obtain⟨hr10,hfin⟩:=I6.o.push HW.o h9 (by omega) ((Oth.refl _ _).drew.trans o9) hp7 ((zB _ _).alloc (zN _) _) hown10 hg10 (by simpa using hloc10);have y10:=(zC hr10 3:zc w10 B 3 (.slice none ([]:List Raw).length 0));have f10:=zF hr10 3))
      all_goals
       have HNX:=zH hfin;clear hfin hown9 hown10 hg10 hloc10 hr10 y10 f10 y9 y9a q9 hv hp7 h9 o9 z0;go_wp2_with fail;go_meet;exact⟨[u],k9,A10,c10,_,by simp,zH (HIF.o _ _ HRU.o),HNX⟩
  case rest =>
  obtain⟨l,k3,A,c,xs,hl1,HL,I7⟩:=hcut;clear I5 I6 CT2;have HP3:Hid (p.bindG g kind end_ k=(p.punct k3 end_).then fun _ k3=>(p.exprG g k3).then fun u k4=>.ok ⟨.node kind n pos (l++[u]),true⟩ k4):=zH (by rw[HP2.o,HL.o];rfl);have hcp:=punct_any end_ wc I7.o.pw I7.o.le HK.o;cases hpu:p.punct k3 end_ with
  |out=>exact absurd (by rw[HP3.o,hpu];rfl) HNE.o
  |err cc aa =>
    rw[hpu] at hcp;have CQ:=zH hcp;have HF:Hid (p.bindG g kind end_ k=.err cc aa):=zH (by rw[HP3.o,hpu];rfl);clear hcp hpu;go_wp2_with (go_at_call 141;refine CQ.o.mono ?_;rintro e w9⟨rfl,o9⟩);rw[HF.o];exact⟨rfl,rfl,I7.o.oth.trans o9⟩
  |ok un k4 =>
    rw[hpu] at hcp;have CQ:=zH hcp;obtain⟨hp1,hp2,_⟩:=p.punct_ok hpu;have HX:Hid (p.bindG g kind end_ k=(p.exprG g k4).then fun u k4=>.ok ⟨.node kind n pos (l++[u]),true⟩ k4):=zH (by rw[HP3.o,hpu];rfl);have hne2:p.exprG g k4≠.out:=PR.then_ne (by have:=HNE.o;rw[HX.o] at this;exact this);have HLM:=hlm4 (n:=l.length) (by omega);clear hcp hpu;go_upto_region 9 with(go_at_call 141;refine CQ.o.mono ?_;rintro e w8⟨⟨v9,rfl,rfl⟩,h8,o8⟩);have I8:=zH (I7.o.step hP h8 (by omega) o8);clear h8 o8;have hce:=HE.o P k4 G w8.drew (by have:=I8.o.le;omega) hne2 I8.o.pw.drew;cases hr:p.exprG g k4 with
    |out=>exact absurd hr hne2
    |err cc aa =>
      rw[hr] at hce;have CE:=zH hce;have HFE:Hid (p.bindG g kind end_ k=.err cc aa):=zH (by rw[HX.o,hr];rfl);have z0:zc w8 B 3 (.slice A l.length c):=zC I8.o.box 3;clear hce hr;refine wp_region_held_drew (S:=fun W=>zc W B 3 (.slice A l.length c)) (by kernel_rfl) z0 (fun hH=>?_);refine tk 0 ?_;refine tk 1 ?_;refine tk 2 ?_;refine rd1 3 (fun K hK=>?_);go_simp;go_at_call 35;refine CE.o.mono ?_;rintro e w9⟨rfl,o9⟩;rw[HFE.o];exact⟨rfl,rfl,I8.o.oth.trans ((Oth.refl _ _).drew.trans o9)⟩
    |ok u k9 =>
      rw[hr] at hce;have CE:=zH hce;obtain⟨hb1,hb2,hb3,_⟩:=exprG_b HB.o hr;have HRU:=zH hr;have z0:zc w8 B 3 (.slice A l.length c):=zC I8.o.box 3;have hBW:=zL I8.o.box;have hltB:=I8.o.lt;clear hce hr;go_region_law (first
        |(go_simp;go_at_call 35;refine CE.o.mono ?_;rintro e w9⟨⟨v,rfl,hv⟩,h9,o9⟩;obtain⟨k7,n7,p7,us7,A7,c7,ht7,rfl,hp7⟩:=TreeVP.parts4 hv;have q9:=o9.heap I8.o.box (by omega);have y9:zc w9 B 3 (.slice A l.length c):=zC q9 3;have y9a:∀o,(w9.alloc o).cell? ⟨B,3,none⟩=some (.slice A l.length c):=fun o=>zC ((zA _ _ _ (zL q9)).trans q9) 3;have hown9:=I8.o.own.drew.kept o9 (Or.inr (fun e=>by have:=(I8.o.own.lt P e).1;omega));have hs9:w8.heap.size<=w9.heap.size:=o9.size;have hs9':B+1<=w9.heap.size:=(by omega))
        |(refine step_append_own_at _ (by rfl) _ _ 32 (by rfl) (B+1) 46 it (.agg #[zI 0,S [],zI 0,zS]) 4 56 Tryz.underlying32 hi hz0 hz1 hz2 rfl (by decide) _ _ _ (by rfl) (hown9.alloc _) ⟨w9.heap.size,0,none⟩ 1 1 [zI k7,S n7,zI p7,.slice A7 us7.length c7] (by rfl) (by rfl) (fun j u h=>cells_new w9 _ rfl [zI k7,S n7,zI p7,.slice A7 us7.length c7] _ j u h) oneCell4 HLM.1 HLM.2 (alloc_le hs9') ?_;intro v' w10 hown10 hg10 hloc10;obtain⟨A10,c10,rfl⟩:=own_form hown10;obtain⟨hr10,hfin⟩:=I8.o.push HW.o h9 (by omega) ((Oth.refl _ _).drew.trans o9) hp7 ((zB _ _).alloc (zN _) _) hown10 hg10 (by simpa using hloc10);have y10:=(zC hr10 3:zc w10 B 3 (.slice A l.length c));have f10:=zF hr10 3))
      all_goals
       have HNX:=zH hfin;clear hfin hown9 hown10 hg10 hloc10 hr10 y10 f10 y9 y9a q9 hv hp7 h9 o9 z0;have HFF:Hid (p.bindG g kind end_ k=.ok ⟨.node kind n pos (l++[u]),true⟩ k9):=zH (by rw[HX.o,HRU.o];rfl);obtain⟨w11,hw11⟩:∃w11,w10.setCell ⟨B,3,none⟩ (.slice A10 (l.length+1) c10)=w11:=⟨_,rfl⟩;rw[hw11] at HNX;rw[hw11];clear hw11;have hl4:(l++[u]).length=l.length+1:=(by simp);obtain⟨z0,z1,z2,z3⟩:=cells4 HNX.o.box;rw[hl4] at z3;have HL4:=zH hl4;clear hl4;have HT:=zH (HNX.o.tree (by simp));have hpw:=HNX.o.pw;have hB11:=zL HNX.o.box;obtain⟨s1,s2,s3,s4,s5,g1,g2,g3,g4,g5,⟨y0,y1,y2,y3,y4⟩,⟨f0,f1,f2,f3,f4⟩,hq,ho⟩:=put5p HNX.o.res (zI kind) (S n) (zI (pos:Int)) (.slice A10 (l.length+1) c10) (.bool true);have O9:=zH (HNX.o.oth.over ho (zN _));have HP9:Hid (PW s5 P G p k9):=zH (HW.o.to O9.o ((ho.block P hpw.lt (fun e=>by have:=zO e;omega)).trans hpw.1));have HT9:Hid (TreeP (fun b=>w.heap.size<=b) s5 (.node kind n pos (l++[u])) (zI kind) (S n) (zI (pos:Int)) (.slice A10 (l++[u]).length c10)):=zH (TreeP.keep (q:=fun b=>w.heap.size<b) (fun b hb hlt=>ho.block b hlt (fun e=>by have:=zO e;omega)) ho.size (fun b _ hb=>by omega) _ _ _ _ _ HT.o);have HQ:=zH hq;clear hq ho hpw;go_wp2_with fail;refine Zb (results_opdP rfl _ _ _ _ _ _ _ _ rfl HQ.o) ?_;rw[HFF.o];exact⟨⟨_,rfl,kind,n,_,l++[u],A10,c10,by rw[HL4.o],rfl,rfl,HT9.o⟩,HP9.o,O9.o⟩
structure OpS(w:World)(P:Nat)(G:Hd)(p:Lfc.PE)(k:Nat)(t:Lfc.Tok)(T:Nat)(W:World):Prop where
 pw:PW W P G p k
 oth:Oth P w W
 box:W.heap[w.heap.size]?=some (.cells #[.pointer (some ⟨P,0,none⟩)] 93 (0,0))
 res:W.heap[w.heap.size+1]?=some (.cells #[.int .i64 0,S [],.int .i64 0,.slice none 0 0,.bool false] 129 (0,0))
 tok:W.heap[T]?=some (.cells #[.int .i64 t.kind,S t.text,.int .i64 (t.pos:Int)] 65 (0,0))
 lt:w.heap.size+1<T
theorem OpS.fin{w W W':World}{P k k':Nat}{G:Hd}{p:Lfc.PE}{t:Lfc.Tok}{T:Nat}(h:OpS w P G p k t T W)(h0:PW w P G p k)(h':PW W' P G p k')(o:Oth P W W')(v0 v1 v2 v3 v4:Value) :
  ∃s1 s2 s3 s4 s5,W'.setCell ⟨w.heap.size+1,0,none⟩ v0=s1∧s1.setCell ⟨w.heap.size+1,1,none⟩ v1=s2∧s2.setCell ⟨w.heap.size+1,2,none⟩ v2=s3∧s3.setCell ⟨w.heap.size+1,3,none⟩ v3=s4∧s4.setCell ⟨w.heap.size+1,4,none⟩ v4=s5 ∧
  ((W'.cell? ⟨w.heap.size+1,0,none⟩=some (.int .i64 0)∧s1.cell? ⟨w.heap.size+1,1,none⟩=some (S [])∧s2.cell? ⟨w.heap.size+1,2,none⟩=some (.int .i64 0)∧s3.cell? ⟨w.heap.size+1,3,none⟩=some (.slice none 0 0)∧s4.cell? ⟨w.heap.size+1,4,none⟩=some (.bool false)) ∧
  (W'.frozen? ⟨w.heap.size+1,0,none⟩=false∧s1.frozen? ⟨w.heap.size+1,1,none⟩=false∧s2.frozen? ⟨w.heap.size+1,2,none⟩=false∧s3.frozen? ⟨w.heap.size+1,3,none⟩=false∧s4.frozen? ⟨w.heap.size+1,4,none⟩=false)) ∧
  Hid (s5.heap[w.heap.size+1]?=some (.cells #[v0,v1,v2,v3,v4] 129 (0,0)))∧Hid (PW s5 P G p k')∧Hid (Oth P w s5)∧Hid (∀x u0 u1 u2 u3,TreeP (fun b=>W.heap.size≤b) W' x u0 u1 u2 u3→TreeP (fun b=>w.heap.size≤b) s5 x u0 u1 u2 u3):=by
 have hP:=h0.lt;have hR:=zL h.res;have hs:=o.size;obtain⟨s1,s2,s3,s4,s5,g1,g2,g3,g4,g5,y,f,hq,ho⟩:=put5p (o.heap h.res (by omega)) v0 v1 v2 v3 v4;have o5:Oth P w s5:=(h.oth.trans o).over ho (by omega);refine⟨s1,s2,s3,s4,s5,g1,g2,g3,g4,g5,⟨y,f⟩,zH hq,zH (h0.to o5 ((ho.block P h'.lt (fun e=>by have:=zO e;omega)).trans h'.1)),zH o5,zH fun x u0 u1 u2 u3 ht=>?_⟩;exact TreeP.keep (fun b hb hlt=>ho.block b hlt (fun e=>by have:=zO e;omega)) ho.size (fun b _ hb=>by omega) _ _ _ _ _ ht
theorem leafQ{q:Nat→Prop}{w:World}(k:Int)(n:List UInt8)(p:Int)(hn:n.length≤1000000):TreeP q w (.node k n p []) (.int .i64 k) (S n) (.int .i64 p) (.slice none 0 0):=by
 rw[TreeP];exact⟨rfl,rfl,hn,rfl,none,0,rfl,zN _,fun h=>absurd rfl h⟩
theorem opd_leaf{p:Lfc.PE}{g:Nat→Lfc.PR (Option Opd)}{k:Nat}{kd:Int}{n:List UInt8}{pos:Nat}(h:p.opdG g k=p.leaf k kd n)(hp:(p.pk k).pos=pos):p.opdG g k=.ok (some ⟨.node kd n (pos:Int) [],false⟩) (k+1):=by
 rw[h,←hp];rfl
theorem opd_of_expr(p:Lfc.PE)(ok:POk p)(g:Nat->Lfc.PR (Option Opd))(hB:OpdB p g)(hE:ExprC p g):OpdC' p (p.opdG g):=by
 intro P k G w hk hne h;have hP:=h.lt;have hmf:∀(fn:Fn)(first cap:Array Value)(w:World),(Instr.makeFunc fn first cap).run Tryz.prog w=.ok (.func fn first cap) w:=fun _ _ _ _=>rfl;obtain⟨wa,hwa⟩:∃wa,(w.alloc (.cells #[.pointer (some ⟨P,0,none⟩)] 93)).alloc (.cells #[zI 0,S [],zI 0,zS,.bool false] 129)=wa:=⟨_,rfl⟩;have ba:zb w wa:=by rw[<-hwa];exact((zB _ _).alloc (zN _) _).alloc (by simp) _
 have qb:zk wa w.heap.size #[.pointer (some ⟨P,0,none⟩)] 93:=by rw[<-hwa];exact heap_alloc_old _ _ _ _ (zW _ _)
 have qr:wa.heap[w.heap.size+1]?=some (.cells #[zI 0,S [],zI 0,zS,.bool false] 129 (0,0)):=by
  rw[<-hwa];have:=zW (w.alloc (.cells #[.pointer (some ⟨P,0,none⟩)] 93)) (.cells #[zI 0,S [],zI 0,zS,.bool false] 129);simpa using this
 have hsa:=eq2 (show wa.heap.size=w.heap.size+2 by rw[<-hwa];simp);have CP:=zH (peek_any wa (h.below ba) hk ok);have b0:zc wa w.heap.size 0 (.pointer (some ⟨P,0,none⟩)):=zC qb 0;have HW:=zH h;have HE:=zH hE;have HB:=zH hB;have HK:=zH ok;have HNE:=zH hne;have hlt0:∀t,p.pk k=t->t.kind≠0->k<p.toks.length:=fun t e h=>p.pk_lt (by rw[e];exact h);have htx:∀t,p.pk k=t->t.kind≠0->t.text.length<=65536/\(t.kind=1->t.text≠[]):=fun t e h=>by
  have h1:=hlt0 t e h;have:=ok.tok _ (List.mem_of_getElem? (PE.pk_of h1));rw[e] at this;exact this
 have BA:=zH ba;have QB:=zH qb;have QR:=zH qr;obtain⟨⟨tk,tx,tp⟩,hpk⟩:∃t,p.pk k=t:=⟨_,rfl⟩;have hlt0:=hlt0 _ hpk;have htx:=htx _ hpk;rw[hpk] at CP;simp only at CP hlt0 htx;have HPK:=zH hpk;have HK1:(p.pk k).kind=tk:=by rw[hpk]
 have HK2:(p.pk k).text=tx:=by rw[hpk]
 have HK3:(p.pk k).pos=tp:=by rw[hpk]
 have HKK:=zJ HK1 (And.intro HK2 HK3);clear h hE hB ok ba qb qr hne hpk HK1 HK2 HK3;go_enter Tryz.func64,Tryz.ntmps64;go_upto_region 1 with fail;clear hwa;go_upto_region 2 with(go_at_call 63;refine CP.o.mono ?_;rintro e w1⟨rfl,b1⟩);have hs1:=b1.size;obtain⟨w2,hw2⟩:∃w2,w1.alloc (.cells #[zI tk,S tx,zI (tp:Int)] 65)=w2:=⟨_,rfl⟩;have b2:=zG hw2;have q2:=zQ hw2;rw[hw2];have hs2:=eq2 (show w2.heap.size=w1.heap.size+1 by rw[<-hw2];simp);have bw2:zb w w2:=BA.o.trans ((b1.mono BA.o.size).trans (b2.mono (by omega)));obtain⟨T,hT⟩:∃T,w1.heap.size=T:=⟨_,rfl⟩;rw[hT] at q2 hs2;have S2:Hid (OpS w P G p k ⟨tk,tx,tp⟩ T w2):=zH ⟨HW.o.below bw2,zE bw2,(b2.block _ (by omega)).trans ((b1.block _ (by omega)).trans QB.o),(b2.block _ (by omega)).trans ((b1.block _ (by omega)).trans QR.o),q2,by omega⟩;rw[hT];have hltT:w.heap.size+1<T:=S2.o.lt;have r0:zc w2 w.heap.size 0 (.pointer (some ⟨P,0,none⟩)):=zC S2.o.box 0;have t0:zc w2 T 0 (zI tk):=zC S2.o.tok 0;have t1:zc w2 T 1 (S tx):=zC S2.o.tok 1;have t2:zc w2 T 2 (zI (tp:Int)):=zC S2.o.tok 2;have hR2:=zL S2.o.res;have hT2:=zL S2.o.tok;have CL:Hid (k<p.toks.length->∀(kd:Int)(n:List UInt8),Calls Tryz.prog 115 #[zI kd,S n,.pointer (some ⟨w.heap.size,0,none⟩),.pointer (some ⟨T,0,none⟩)] w2 fun e w'=>e=.returned (.tuple #[.agg #[zI kd,S n,zI (tp:Int),zS,.bool false],.bool true])/\PW w' P G p (k+1)/\Oth P w2 w'):=zH fun hk2 kd n=>leaf_any kd n w2 S2.o.pw hk2 HK.o r0 t2 (by omega) hT2 (by omega);clear hw2 b2 q2 bw2 hT CP b0 t2;by_cases hk1:tk=1
 ·subst hk1;have hkl:=hlt0 (by decide);obtain⟨htl,htn⟩:=htx (by decide);have htn:=htn rfl;have HNM:Hid (∀n:List UInt8,n.length<=65536->∀W,Calls Tryz.prog 80 #[S n] W fun e w'=>e=.returned (.bool (isName n))/\W=w'):=zH fun n hn W=>isName_any n W (by omega);cases hnm:isName tx
  ·have HN1:=zH (HNM.o tx htl);rw[hnm] at HN1;obtain⟨c,r,rfl⟩:=List.exists_cons_of_ne_nil htn;have hrl:r.length<=65536:=(by simp at htl;omega);by_cases hc:c.toNat=64
   ·have hc2:((c.toNat:Int) == 64)=true:=(by simp;omega);have HN2:=zH (HNM.o r hrl);cases hnr:isName r
    ·rw[hnr] at HN2;have HF:Hid (p.opdG g k=.ok none k):=zH (by unfold Lfc.PE.opdG;rw[if_pos HKK.o.1,HKK.o.2.1,if_neg (by simp[hnm]),if_neg (by simp[hnr])]);obtain⟨s1,s2,s3,s4,s5,g1,g2,g3,g4,g5,⟨⟨y0,y1,y2,y3,y4⟩,⟨f0,f1,f2,f3,f4⟩⟩,HQ,HP5,HO5,HT5⟩:=S2.o.fin HW.o S2.o.pw (Oth.refl _ _) (zI 0) (S []) (zI 0) zS (.bool false);go_wp2_with (first | fail | (go_at_call 80;with_reducible refine(HN1.o _).mono ?_;rintro e w9⟨rfl,rfl⟩) | (go_at_call 80;refine(HN2.o _).mono ?_;rintro e w9⟨rfl,rfl⟩));refine Zb (results_opdP2 rfl _ _ _ _ _ _ _ _ rfl HQ.o) ?_;rw[HF.o];exact⟨⟨_,rfl,rfl⟩,HP5.o,HO5.o⟩
    rw[hnr] at HN2;have HF:Hid (p.opdG g k=.ok (some ⟨.node 2 r (tp:Int) [],false⟩) (k+1)):=zH (opd_leaf (by unfold Lfc.PE.opdG;rw[if_pos HKK.o.1,HKK.o.2.1,if_neg (by simp[hnm]),if_pos (by simp[hc,hnr])];rfl) HKK.o.2.2);have CF:=zH (CL.o hkl 2 r);go_wp2_with (first | (go_at_call 115;refine CF.o.mono ?_;rintro e w3⟨rfl,h3,o3⟩;obtain⟨s1,s2,s3,s4,s5,g1,g2,g3,g4,g5,⟨⟨y0,y1,y2,y3,y4⟩,⟨f0,f1,f2,f3,f4⟩⟩,HQ,HP5,HO5,HT5⟩:=S2.o.fin HW.o h3 o3 (zI 2) (S r) (zI (tp:Int)) zS (.bool false)) | (go_at_call 80;with_reducible refine(HN1.o _).mono ?_;rintro e w9⟨rfl,rfl⟩) | (go_at_call 80;refine(HN2.o _).mono ?_;rintro e w9⟨rfl,rfl⟩));refine Zb (results_opdP2 rfl _ _ _ _ _ _ _ _ rfl HQ.o) ?_;rw[HF.o];exact⟨⟨_,rfl,_,_,_,_,_,_,rfl,rfl,leafQ _ _ _ (by omega)⟩,HP5.o,HO5.o⟩
   have hc2:((c.toNat:Int) == 64)=false:=(by simp;omega);have HF:Hid (p.opdG g k=.ok none k):=zH (by unfold Lfc.PE.opdG;rw[if_pos HKK.o.1,HKK.o.2.1,if_neg (by simp[hnm]),if_neg (by simp[hc])]);obtain⟨s1,s2,s3,s4,s5,g1,g2,g3,g4,g5,⟨⟨y0,y1,y2,y3,y4⟩,⟨f0,f1,f2,f3,f4⟩⟩,HQ,HP5,HO5,HT5⟩:=S2.o.fin HW.o S2.o.pw (Oth.refl _ _) (zI 0) (S []) (zI 0) zS (.bool false);go_wp2_with (first | fail | (go_at_call 80;refine(HN1.o _).mono ?_;rintro e w9⟨rfl,rfl⟩));refine Zb (results_opdP2 rfl _ _ _ _ _ _ _ _ rfl HQ.o) ?_;rw[HF.o];exact⟨⟨_,rfl,rfl⟩,HP5.o,HO5.o⟩
  have HN1:=zH (HNM.o tx htl);rw[hnm] at HN1;have HF:Hid (p.opdG g k=.ok (some ⟨.node 1 tx (tp:Int) [],false⟩) (k+1)):=zH (opd_leaf (by unfold Lfc.PE.opdG;rw[if_pos HKK.o.1,HKK.o.2.1,if_pos hnm]) HKK.o.2.2);have CF:=zH (CL.o hkl 1 tx);go_wp2_with (first | (go_at_call 115;refine CF.o.mono ?_;rintro e w3⟨rfl,h3,o3⟩;obtain⟨s1,s2,s3,s4,s5,g1,g2,g3,g4,g5,⟨⟨y0,y1,y2,y3,y4⟩,⟨f0,f1,f2,f3,f4⟩⟩,HQ,HP5,HO5,HT5⟩:=S2.o.fin HW.o h3 o3 (zI 1) (S tx) (zI (tp:Int)) zS (.bool false)) | (go_at_call 80;refine(HN1.o _).mono ?_;rintro e w9⟨rfl,rfl⟩));refine Zb (results_opdP2 rfl _ _ _ _ _ _ _ _ rfl HQ.o) ?_;rw[HF.o];exact⟨⟨_,rfl,_,_,_,_,_,_,rfl,rfl,leafQ _ _ _ (by omega)⟩,HP5.o,HO5.o⟩
 have hk1':(tk == 1)=false:=by simpa using hk1
 by_cases hk2:tk=2
 ·subst hk2;have hkl:=hlt0 (by decide);have HE0:Hid (∀r,(if (p.pk k).text=[95] then p.leaf k 3 [] else if (p.pk k).text=[116,121,112,101] then p.leaf k 4 [] else if (p.pk k).text=[45,62]\/(p.pk k).text=[60,45] then p.leaf k 1 (p.pk k).text else if (p.pk k).text=[40] then(p.parG g k).opt else if (p.pk k).text=[123] then(p.bindG g 7 [125] k).opt else if (p.pk k).text=[91] then(p.bindG g 8 [93] k).opt else .ok none k)=r->p.opdG g k=r):=zH fun r h=>by
   unfold Lfc.PE.opdG;rw[if_neg (by rw[HKK.o.1];decide),if_neg (by rw[HKK.o.1];decide)];exact h
  clear hk1 hk1' htx;by_cases e0:tx=[95]
  ·subst e0;have HF:Hid (p.opdG g k=.ok (some ⟨.node 3 [] (tp:Int) [],false⟩) (k+1)):=zH (opd_leaf (HE0.o _ (by rw[HKK.o.2.1];rfl)) HKK.o.2.2);have CF:=zH (CL.o hkl 3 []);go_wp2_with (first | (go_at_call 115;refine CF.o.mono ?_;rintro e w3⟨rfl,h3,o3⟩;obtain⟨s1,s2,s3,s4,s5,g1,g2,g3,g4,g5,⟨⟨y0,y1,y2,y3,y4⟩,⟨f0,f1,f2,f3,f4⟩⟩,HQ,HP5,HO5,HT5⟩:=S2.o.fin HW.o h3 o3 (zI 3) (S []) (zI (tp:Int)) zS (.bool false)));refine Zb (results_opdP2 rfl _ _ _ _ _ _ _ _ rfl HQ.o) ?_;rw[HF.o];exact⟨⟨_,rfl,_,_,_,_,_,_,rfl,rfl,leafQ _ _ _ (by simp)⟩,HP5.o,HO5.o⟩
  have n0:(tx == ([95]:List UInt8))=false:=beq_eq_false_iff_ne.2 e0;by_cases e1:tx=[116,121,112,101]
  ·subst e1;have HF:Hid (p.opdG g k=.ok (some ⟨.node 4 [] (tp:Int) [],false⟩) (k+1)):=zH (opd_leaf (HE0.o _ (by rw[HKK.o.2.1];rfl)) HKK.o.2.2);have CF:=zH (CL.o hkl 4 []);go_wp2_with (first | (go_at_call 115;refine CF.o.mono ?_;rintro e w3⟨rfl,h3,o3⟩;obtain⟨s1,s2,s3,s4,s5,g1,g2,g3,g4,g5,⟨⟨y0,y1,y2,y3,y4⟩,⟨f0,f1,f2,f3,f4⟩⟩,HQ,HP5,HO5,HT5⟩:=S2.o.fin HW.o h3 o3 (zI 4) (S []) (zI (tp:Int)) zS (.bool false)));refine Zb (results_opdP2 rfl _ _ _ _ _ _ _ _ rfl HQ.o) ?_;rw[HF.o];exact⟨⟨_,rfl,_,_,_,_,_,_,rfl,rfl,leafQ _ _ _ (by simp)⟩,HP5.o,HO5.o⟩
  have n1:(tx == ([116,121,112,101]:List UInt8))=false:=beq_eq_false_iff_ne.2 e1;by_cases e2:tx=[45,62]
  ·subst e2;have HF:Hid (p.opdG g k=.ok (some ⟨.node 1 [45,62] (tp:Int) [],false⟩) (k+1)):=zH (opd_leaf (HE0.o _ (by rw[HKK.o.2.1];rfl)) HKK.o.2.2);have CF:=zH (CL.o hkl 1 [45,62]);go_wp2_with (first | (go_at_call 115;refine CF.o.mono ?_;rintro e w3⟨rfl,h3,o3⟩;obtain⟨s1,s2,s3,s4,s5,g1,g2,g3,g4,g5,⟨⟨y0,y1,y2,y3,y4⟩,⟨f0,f1,f2,f3,f4⟩⟩,HQ,HP5,HO5,HT5⟩:=S2.o.fin HW.o h3 o3 (zI 1) (S [45,62]) (zI (tp:Int)) zS (.bool false)));refine Zb (results_opdP2 rfl _ _ _ _ _ _ _ _ rfl HQ.o) ?_;rw[HF.o];exact⟨⟨_,rfl,_,_,_,_,_,_,rfl,rfl,leafQ _ _ _ (by simp)⟩,HP5.o,HO5.o⟩
  have n2:(tx == ([45,62]:List UInt8))=false:=beq_eq_false_iff_ne.2 e2;by_cases e3:tx=[60,45]
  ·subst e3;have HF:Hid (p.opdG g k=.ok (some ⟨.node 1 [60,45] (tp:Int) [],false⟩) (k+1)):=zH (opd_leaf (HE0.o _ (by rw[HKK.o.2.1];rfl)) HKK.o.2.2);have CF:=zH (CL.o hkl 1 [60,45]);go_wp2_with (first | (go_at_call 115;refine CF.o.mono ?_;rintro e w3⟨rfl,h3,o3⟩;obtain⟨s1,s2,s3,s4,s5,g1,g2,g3,g4,g5,⟨⟨y0,y1,y2,y3,y4⟩,⟨f0,f1,f2,f3,f4⟩⟩,HQ,HP5,HO5,HT5⟩:=S2.o.fin HW.o h3 o3 (zI 1) (S [60,45]) (zI (tp:Int)) zS (.bool false)));refine Zb (results_opdP2 rfl _ _ _ _ _ _ _ _ rfl HQ.o) ?_;rw[HF.o];exact⟨⟨_,rfl,_,_,_,_,_,_,rfl,rfl,leafQ _ _ _ (by simp)⟩,HP5.o,HO5.o⟩
  have n3:(tx == ([60,45]:List UInt8))=false:=beq_eq_false_iff_ne.2 e3;by_cases e4:tx=[40]
  ·subst e4;have HFO:Hid (p.opdG g k=(p.parG g k).opt):=zH (HE0.o _ (by rw[HKK.o.2.1];rfl));have hne2:p.parG g k≠.out:=fun e=>HNE.o (by rw[HFO.o,e];rfl);have hcc:=par_of_expr p HK.o g HB.o HE.o P k G w2 hkl hne2 S2.o.pw;cases hpr:p.parG g k with
   |out=>exact absurd hpr hne2
   |err cc aa =>
    rw[hpr] at hcc;have CC:=zH hcc;have HF:Hid (p.opdG g k=.err cc aa):=zH (by rw[HFO.o,hpr];rfl);clear hcc hpr;go_wp2_with (go_at_call 116;refine CC.o.mono ?_;rintro e w3⟨rfl,o3⟩);rw[HF.o];exact⟨rfl,rfl,S2.o.oth.trans o3⟩
   |ok x k9 =>
    rw[hpr] at hcc;have CC:=zH hcc;have HF:Hid (p.opdG g k=.ok (some x) k9):=zH (by rw[HFO.o,hpr];rfl);clear hcc hpr;go_wp2_with (go_at_call 116;refine CC.o.mono ?_;rintro e w3⟨⟨v,rfl,⟨kx,nx,qx,ux,Ax,cx,rfl,hnd,hcl,htx⟩⟩,h3,o3⟩;obtain⟨s1,s2,s3,s4,s5,g1,g2,g3,g4,g5,⟨⟨y0,y1,y2,y3,y4⟩,⟨f0,f1,f2,f3,f4⟩⟩,HQ,HP5,HO5,HT5⟩:=S2.o.fin HW.o h3 o3 (zI kx) (S nx) (zI qx) (.slice Ax ux.length cx) (.bool true);have HT9:=zH (HT5.o _ _ _ _ _ htx);have HND:=zJ hnd hcl;clear htx hnd hcl);refine Zb (results_opdP2 rfl _ _ _ _ _ _ _ _ rfl HQ.o) ?_;rw[HF.o];exact⟨⟨_,rfl,kx,nx,qx,ux,Ax,cx,by(rw[HND.o.2] <;> rfl),HND.o.1,HT9.o⟩,HP5.o,HO5.o⟩
  have n4:(tx == ([40]:List UInt8))=false:=beq_eq_false_iff_ne.2 e4;by_cases e5:tx=[123]
  ·subst e5;have HFO:Hid (p.opdG g k=(p.bindG g 7 [125] k).opt):=zH (HE0.o _ (by rw[HKK.o.2.1];rfl));have hne2:p.bindG g 7 [125] k≠.out:=fun e=>HNE.o (by rw[HFO.o,e];rfl);have hcc:=bind_of_expr p HK.o g HB.o HE.o 7 [125] P k G w2 hkl hne2 S2.o.pw;cases hpr:p.bindG g 7 [125] k with
   |out=>exact absurd hpr hne2
   |err cc aa =>
    rw[hpr] at hcc;have CC:=zH hcc;have HF:Hid (p.opdG g k=.err cc aa):=zH (by rw[HFO.o,hpr];rfl);clear hcc hpr;go_wp2_with (go_at_call 117;refine CC.o.mono ?_;rintro e w3⟨rfl,o3⟩);rw[HF.o];exact⟨rfl,rfl,S2.o.oth.trans o3⟩
   |ok x k9 =>
    rw[hpr] at hcc;have CC:=zH hcc;have HF:Hid (p.opdG g k=.ok (some x) k9):=zH (by rw[HFO.o,hpr];rfl);clear hcc hpr;go_wp2_with (go_at_call 117;refine CC.o.mono ?_;rintro e w3⟨⟨v,rfl,⟨kx,nx,qx,ux,Ax,cx,rfl,hnd,hcl,htx⟩⟩,h3,o3⟩;obtain⟨s1,s2,s3,s4,s5,g1,g2,g3,g4,g5,⟨⟨y0,y1,y2,y3,y4⟩,⟨f0,f1,f2,f3,f4⟩⟩,HQ,HP5,HO5,HT5⟩:=S2.o.fin HW.o h3 o3 (zI kx) (S nx) (zI qx) (.slice Ax ux.length cx) (.bool true);have HT9:=zH (HT5.o _ _ _ _ _ htx);have HND:=zJ hnd hcl;clear htx hnd hcl);refine Zb (results_opdP2 rfl _ _ _ _ _ _ _ _ rfl HQ.o) ?_;rw[HF.o];exact⟨⟨_,rfl,kx,nx,qx,ux,Ax,cx,by(rw[HND.o.2] <;> rfl),HND.o.1,HT9.o⟩,HP5.o,HO5.o⟩
  have n5:(tx == ([123]:List UInt8))=false:=beq_eq_false_iff_ne.2 e5;by_cases e6:tx=[91]
  ·subst e6;have HFO:Hid (p.opdG g k=(p.bindG g 8 [93] k).opt):=zH (HE0.o _ (by rw[HKK.o.2.1];rfl));have hne2:p.bindG g 8 [93] k≠.out:=fun e=>HNE.o (by rw[HFO.o,e];rfl);have hcc:=bind_of_expr p HK.o g HB.o HE.o 8 [93] P k G w2 hkl hne2 S2.o.pw;cases hpr:p.bindG g 8 [93] k with
   |out=>exact absurd hpr hne2
   |err cc aa =>
    rw[hpr] at hcc;have CC:=zH hcc;have HF:Hid (p.opdG g k=.err cc aa):=zH (by rw[HFO.o,hpr];rfl);clear hcc hpr;go_wp2_with (go_at_call 117;refine CC.o.mono ?_;rintro e w3⟨rfl,o3⟩);rw[HF.o];exact⟨rfl,rfl,S2.o.oth.trans o3⟩
   |ok x k9 =>
    rw[hpr] at hcc;have CC:=zH hcc;have HF:Hid (p.opdG g k=.ok (some x) k9):=zH (by rw[HFO.o,hpr];rfl);clear hcc hpr;go_wp2_with (go_at_call 117;refine CC.o.mono ?_;rintro e w3⟨⟨v,rfl,⟨kx,nx,qx,ux,Ax,cx,rfl,hnd,hcl,htx⟩⟩,h3,o3⟩;obtain⟨s1,s2,s3,s4,s5,g1,g2,g3,g4,g5,⟨⟨y0,y1,y2,y3,y4⟩,⟨f0,f1,f2,f3,f4⟩⟩,HQ,HP5,HO5,HT5⟩:=S2.o.fin HW.o h3 o3 (zI kx) (S nx) (zI qx) (.slice Ax ux.length cx) (.bool true);have HT9:=zH (HT5.o _ _ _ _ _ htx);have HND:=zJ hnd hcl;clear htx hnd hcl);refine Zb (results_opdP2 rfl _ _ _ _ _ _ _ _ rfl HQ.o) ?_;rw[HF.o];exact⟨⟨_,rfl,kx,nx,qx,ux,Ax,cx,by(rw[HND.o.2] <;> rfl),HND.o.1,HT9.o⟩,HP5.o,HO5.o⟩
  have n6:(tx == ([91]:List UInt8))=false:=beq_eq_false_iff_ne.2 e6;have HNO:Hid (tx≠[95]/\tx≠[116,121,112,101]/\tx≠[45,62]/\tx≠[60,45]/\tx≠[40]/\tx≠[123]/\tx≠[91]):=zH ⟨e0,e1,e2,e3,e4,e5,e6⟩;clear e0 e1 e2 e3 e4 e5 e6;have HF:Hid (p.opdG g k=.ok none k):=zH (HE0.o _ (by obtain⟨a,b,c,d,e,f,h⟩:=HNO.o;rw[HKK.o.2.1,if_neg a,if_neg b,if_neg (by rintro (h | h);exact c h;exact d h),if_neg e,if_neg f,if_neg h]));obtain⟨s1,s2,s3,s4,s5,g1,g2,g3,g4,g5,⟨⟨y0,y1,y2,y3,y4⟩,⟨f0,f1,f2,f3,f4⟩⟩,HQ,HP5,HO5,HT5⟩:=S2.o.fin HW.o S2.o.pw (Oth.refl _ _) (zI 0) (S []) (zI 0) zS (.bool false);go_wp2_with (fail);refine Zb (results_opdP2 rfl _ _ _ _ _ _ _ _ rfl HQ.o) ?_;rw[HF.o];exact⟨⟨_,rfl,rfl⟩,HP5.o,HO5.o⟩
 have hk2':(tk != 2)=true:=by simpa using hk2
 have HF:Hid (p.opdG g k=.ok none k):=zH (by unfold Lfc.PE.opdG;rw[if_neg (by rw[HKK.o.1];exact hk1),if_pos (by rw[HKK.o.1];exact hk2)]);obtain⟨s1,s2,s3,s4,s5,g1,g2,g3,g4,g5,⟨⟨y0,y1,y2,y3,y4⟩,⟨f0,f1,f2,f3,f4⟩⟩,HQ,HP5,HO5,HT5⟩:=S2.o.fin HW.o S2.o.pw (Oth.refl _ _) (zI 0) (S []) (zI 0) zS (.bool false);go_wp2_with (fail);refine Zb (results_opdP2 rfl _ _ _ _ _ _ _ _ rfl HQ.o) ?_;rw[HF.o];exact⟨⟨_,rfl,rfl⟩,HP5.o,HO5.o⟩
theorem opdF_c(p:Lfc.PE)(ok:POk p):∀f,OpdC' p (p.opdF f)
 |0=>fun P k G w hk hne h=>absurd rfl hne
 |f+1=>opd_of_expr p ok (p.opdF f) (opdF_b p f) (fun P k G w hk hne h=>expr_of p ok (p.opdF f) (opdF_b p f) (fun k x k' h hc=>opdF_args p f k x k' h hc) (opdF_c p ok f) P k G w hk hne h)
theorem expr_any(p:Lfc.PE)(ok:POk p)(P k:Nat)(G:Hd)(w:World)(hk:k≤p.toks.length)(h:PW w P G p k) :
  Calls Tryz.prog 35 #[.pointer (some ⟨P,0,none⟩)] w (PRes P G p w (RawR w) (p.expr k)) :=
 expr_of p ok _ (opdF_b p _) (fun k x k' h hc=>opdF_args p _ k x k' h hc) (opdF_c p ok _) P k G w hk (expr_ne p k) h
end Go.Proofs.YthajalgkjonaaaaGreatDoor
namespace Lfc
theorem item_induct(P:List UInt8→Prop)(h0:P [])(h1:∀c r,(nx (c :: r)).err≠0→P (c :: r))
  (h2:∀c r,(nx (c :: r)).err=0→P ((c :: r).drop (nx (c :: r)).len)→P (c :: r)):∀l,P l:=by
 have main:∀m(l:List UInt8),l.length≤m→P l:=by
  intro m;induction m with
  |zero=>intro l hl;obtain rfl:=List.eq_nil_of_length_eq_zero (by omega:l.length=0);exact h0
  |succ m ih =>
   intro l hl
   match l,hl with
   |[],_=>exact h0
   |c :: r,hl =>
    by_cases he:(nx (c :: r)).err=0
    ·have:=nx_len c r he;refine h2 c r he (ih _ ?_);rw[List.length_drop,List.length_cons];simp only[List.length_cons] at hl;omega
    exact h1 c r he
 exact fun l=>main _ l (Nat.le_refl _)
def put(x:Nx)(n:Nat)(y:List Tok × Int × Nat):List Tok × Int × Nat :=
 if x.kind=0 then y else if y.2.1=0 then(⟨x.kind,x.text,n⟩ :: y.1,y.2) else([],y.2)
def scF:Nat→Nat→List UInt8→List Tok × Int × Nat
 |0,n,_=>([],0,n)
 |_+1,n,[]=>([],0,n)
 |f+1,n,c :: r =>
  if (nx (c :: r)).err≠0 then([],(nx (c :: r)).err,n)
  else put (nx (c :: r)) n (scF f (n+(nx (c :: r)).len) ((c :: r).drop (nx (c :: r)).len))
def sc(n:Nat)(l:List UInt8):List Tok × Int × Nat:=scF l.length n l
theorem scF_any:∀(m f g n:Nat)(l:List UInt8),l.length≤m→l.length≤f→l.length≤g→scF f n l=scF g n l:=by
 intro m;induction m with
 |zero =>
  intro f g n l h _ _;obtain rfl:=List.eq_nil_of_length_eq_zero (by omega:l.length=0);cases f <;> cases g <;> rfl
 |succ m ih =>
  intro f g n l h hf hg
  match l,h,hf,hg with
  |[],_,_,_=>cases f <;> cases g <;> rfl
  |c :: r,h,hf,hg =>
   simp only[List.length_cons] at h hf hg;obtain⟨f,rfl⟩:∃k,f=k+1:=⟨f-1,by omega⟩;obtain⟨g,rfl⟩:∃k,g=k+1:=⟨g-1,by omega⟩;rw[scF,scF];by_cases he:(nx (c :: r)).err≠0
   ·rw[if_pos he,if_pos he]
   have hl:=nx_len c r (by simpa using he);have hd:((c :: r).drop (nx (c :: r)).len).length≤r.length:=(by rw[List.length_drop,List.length_cons];omega);rw[if_neg he,if_neg he,ih f g _ _ (by omega) (by omega) (by omega)]
theorem sc_nil(n:Nat):sc n []=([],0,n):=rfl
theorem sc_err(n:Nat)(c:UInt8)(r:List UInt8)(h:(nx (c :: r)).err≠0):sc n (c :: r)=([],(nx (c :: r)).err,n):=by
 rw[sc,List.length_cons,scF,if_pos h]
theorem sc_ok(n:Nat)(c:UInt8)(r:List UInt8)(h:(nx (c :: r)).err=0):sc n (c :: r)=put (nx (c :: r)) n (sc (n+(nx (c :: r)).len) ((c :: r).drop (nx (c :: r)).len)):=by
 have hl:=nx_len c r h;have hd:((c :: r).drop (nx (c :: r)).len).length≤r.length:=by rw[List.length_drop,List.length_cons];omega
 rw[sc,List.length_cons,scF,if_neg (by simpa using h),sc,scF_any r.length r.length _ _ _ hd hd (Nat.le_refl _)]
theorem put_snd(x:Nx)(n:Nat)(y:List Tok × Int × Nat):(put x n y).2=y.2:=by
 unfold put;split
 ·rfl
 split <;> rfl
theorem put_fst(x:Nx)(n:Nat)(y:List Tok × Int × Nat)(h:y.2.1=0):(put x n y).1=(if x.kind=0 then [] else [⟨x.kind,x.text,n⟩])++y.1:=by
 unfold put;split
 ·rfl
 first | rfl | (rw[if_pos h];rfl)
theorem put_none(x:Nx)(n:Nat)(y:List Tok × Int × Nat)(h:y.2.1≠0)(h1:y.1=[]):put x n y=y:=by
 unfold put;split
 ·rfl
 first | exact Prod.ext h1.symm rfl | (rw[if_neg h];exact Prod.ext h1.symm rfl)
theorem sc_none(l:List UInt8):∀n,(sc n l).2.1≠0→(sc n l).1=[]:=by
 induction l using item_induct with
 |h0=>intro n _;rfl
 |h1 c r he=>intro n _;rw[sc_err _ _ _ he]
 |h2 c r he ih =>
  intro n h;rw[sc_ok _ _ _ he] at h ⊢;rw[put_snd] at h;rw[put_none _ _ _ h (ih _ h)];exact ih _ h
def brk:Bool→List UInt8→Nat
 |_,[]=>0
 |p,c :: r=>(if p && letterB c then 0 else 1)+brk (letterB c) r
theorem brk_le(p:Bool)(l:List UInt8):brk p l≤brk false l∧brk false l≤brk p l+1:=by
 cases l with
 |nil=>simp[brk]
 |cons c r=>simp only[brk];cases p <;> cases letterB c <;> simp <;> omega
theorem brk_drop:∀(m:Nat)(c:UInt8)(r:List UInt8)(p:Bool),m≤r.length→(if p && letterB c then 0 else 1)+brk (letterB ((c :: r).getD m 0)) (r.drop m)≤brk p (c :: r):=by
 intro m;induction m with
 |zero=>intro c r p _;simp[brk]
 |succ m ih =>
  intro c r p h
  match r,h with
  |b :: q,h =>
   have:=ih b q (letterB c) (by simpa using h);simp only[List.drop_succ_cons,brk] at this ⊢;simp only[List.getD_cons_succ] at this ⊢;split at this <;> omega
theorem runLen_take(p:UInt8→Bool)(l:List UInt8):∀b∈l.take (runLen p l),p b=true:=by
 induction l with
 |nil=>intro b hb;simp at hb
 |cons c r ih =>
  intro b hb;rw[runLen] at hb;split at hb
  ·rename_i hc;rw[List.take_succ_cons] at hb;rcases List.mem_cons.1 hb with rfl | hb
   ·exact hc
   exact ih b hb
  simp at hb
theorem runLen_stop(p:UInt8→Bool)(l:List UInt8):∀d q,l.drop (runLen p l)=d :: q→p d=false:=by
 induction l with
 |nil=>intro d q h;simp at h
 |cons c r ih =>
  intro d q h;rw[runLen] at h;split at h
  ·rw[List.drop_succ_cons] at h;exact ih d q h
  rename_i hc;rw[List.drop_zero] at h;cases h;simpa using hc
theorem runLen_app(p:UInt8→Bool)(a b:List UInt8)(ha:∀x∈a,p x=true)(hb:∀d q,b=d :: q→p d=false):runLen p (a++b)=a.length:=by
 induction a with
 |nil =>
  cases b with
  |nil=>rfl
  |cons d q=>rw[List.nil_append,runLen,if_neg (by rw[hb d q rfl];simp)];rfl
 |cons c r ih =>
  rw[List.cons_append,runLen,if_pos (ha c (List.mem_cons_self)),ih fun x hx=>ha x (List.mem_cons_of_mem _ hx)];rfl
def valid(t:Tok):Prop :=
 ((t.kind=if reservedB t.text then 2 else 1)∧t.text≠[]∧t.text.length≤64∧∀b∈t.text,nameB b=true) ∨
 (t.kind=2∧∃c,specialB c=true∧t.text=[c]) ∨
 (t.kind=3∧t.text≠[]∧t.text.length≤64∧∀b∈t.text,letterB b=true)
theorem nx_tok(c:UInt8)(r:List UInt8)(he:(nx (c :: r)).err=0)(hk:(nx (c :: r)).kind≠0) :
  (nameB c=true∧runLen nameB (c :: r)≤64∧nx (c :: r)=⟨if reservedB ((c :: r).take (runLen nameB (c :: r))) then 2 else 1,(c :: r).take (runLen nameB (c :: r)),runLen nameB (c :: r),0⟩) ∨
  (specialB c=true∧nx (c :: r)=⟨2,[c],1,0⟩) ∨
  (c.toNat=37∧1≤runLen letterB r∧runLen letterB r≤64∧nx (c :: r)=⟨3,r.take (runLen letterB r),runLen letterB r+1,0⟩):=by
 cases hb:blankB c
 ·by_cases h37:c.toNat=37
  ·have e:nx (c :: r)=pc r:=(by simp only[nx];rw[hb,if_neg (by simp),if_pos h37]);rw[e] at he hk ⊢;refine .inr (.inr ⟨h37,?_⟩)
   match r with
   |[]=>simp[pc] at hk
   |b :: r' =>
    simp only[pc] at he hk ⊢;by_cases h123:b.toNat=123
    ·rw[if_pos h123] at hk;split at hk <;> simp at hk
    rw[if_neg h123] at he hk ⊢;by_cases h0:runLen letterB (b :: r')=0
    ·rw[if_pos h0] at hk;simp at hk
    rw[if_neg h0] at he hk ⊢;by_cases h64:64<runLen letterB (b :: r')
    ·rw[if_pos h64] at he;simp at he
    rw[if_neg h64];exact⟨by omega,by omega,rfl⟩
  cases hn:nameB c
  ·cases hs:specialB c
   ·have e:nx (c :: r)=⟨0,[],0,10⟩:=(by simp only[nx];rw[hb,if_neg (by simp),if_neg h37,hn,if_neg (by simp),hs,if_neg (by simp)]);rw[e] at he;simp at he
   exact .inr (.inl ⟨rfl,by simp only[nx];rw[hb,if_neg (by simp),if_neg h37,hn,if_neg (by simp),hs,if_pos rfl]⟩)
  have e:nx (c :: r)=nm ((c :: r).take (runLen nameB (c :: r))):=by simp only[nx];rw[hb,if_neg (by simp),if_neg h37,hn,if_pos rfl]
  have hl:((c :: r).take (runLen nameB (c :: r))).length=runLen nameB (c :: r):=by have:=runLen_le nameB (c :: r);rw[List.length_take];omega
  rw[e] at he ⊢;refine .inl ⟨rfl,?_⟩;unfold nm at he ⊢;rw[hl] at he ⊢;by_cases h64:64<runLen nameB (c :: r)
  ·rw[if_pos h64] at he;simp at he
  rw[if_neg h64];exact⟨by omega,rfl⟩
 have e:nx (c :: r)=⟨0,[],1,0⟩:=by simp only[nx];rw[hb,if_pos rfl]
 rw[e] at hk;simp at hk
theorem letter_name(c:UInt8)(h:letterB c=true):nameB c=true:=by
 have:=of_decide_eq_true h;exact decide_eq_true (by omega)
theorem special_not(c:UInt8)(h:specialB c=true):letterB c=false:=by
 have:=of_decide_eq_true h;exact decide_eq_false (by omega)
theorem nx_valid(c:UInt8)(r:List UInt8)(n:Nat)(he:(nx (c :: r)).err=0)(hk:(nx (c :: r)).kind≠0) :
  valid ⟨(nx (c :: r)).kind,(nx (c :: r)).text,n⟩∧(c :: r).take (nx (c :: r)).len=spT ⟨(nx (c :: r)).kind,(nx (c :: r)).text,n⟩ ∧
  (∀d q,(c :: r).drop (nx (c :: r)).len=d :: q→(letterB ((c :: r).getD ((nx (c :: r)).len-1) 0) && letterB d)=false):=by
 rcases nx_tok c r he hk with⟨hn,h64,e⟩ | ⟨hs,e⟩ | ⟨h37,h1,h64,e⟩
 ·rw[e];have hle:=runLen_le nameB (c :: r);have hpos:1≤runLen nameB (c :: r):=by rw[runLen,if_pos hn];omega
  have hl:((c :: r).take (runLen nameB (c :: r))).length=runLen nameB (c :: r):=by rw[List.length_take];omega
  refine⟨.inl ⟨rfl,?_,by rw[hl];exact h64,runLen_take nameB (c :: r)⟩,?_,?_⟩
  ·intro h0;have:=congrArg List.length h0;rw[hl] at this;simp at this;omega
  ·simp only[spT];rw[if_neg (by split <;> decide)]
  intro d q hd;have:=runLen_stop nameB (c :: r) d q hd;have hl:letterB d=false:=by
   cases hh:letterB d
   ·rfl
   rw[letter_name d hh] at this;cases this
  rw[hl,Bool.and_false]
 ·rw[e];refine⟨.inr (.inl ⟨rfl,c,hs,rfl⟩),rfl,?_⟩;intro d q _;have:=special_not c hs;simp[this]
 rw[e];have hle:=runLen_le letterB r;have hl:(r.take (runLen letterB r)).length=runLen letterB r:=by rw[List.length_take];omega
 refine⟨.inr (.inr ⟨rfl,?_,by rw[hl];exact h64,runLen_take letterB r⟩),?_,?_⟩
 ·intro h0;have:=congrArg List.length h0;rw[hl] at this;simp at this;omega
 ·simp only[spT,List.take_succ_cons];rw[if_pos trivial,show c=37 from UInt8.toNat_inj.1 h37]
 intro d q hd;rw[List.drop_succ_cons] at hd;rw[runLen_stop letterB r d q hd,Bool.and_false]
theorem lexR_sc(l:List UInt8):∀n acc,acc.length+brk false l≤20000→lexR n l acc=if (sc n l).2.1=0 then(acc++(sc n l).1,(sc n l).2) else([],(sc n l).2):=by
 induction l using item_induct with
 |h0=>intro n acc _;rw[lexR_nil,sc_nil];simp
 |h1 c r he=>intro n acc _;rw[lexR_cons,if_pos he,sc_err _ _ _ he];simp[he]
 |h2 c r he ih =>
  intro n acc hacc;have hl:=nx_len c r he;obtain⟨m,hm⟩:∃m,(nx (c :: r)).len=m+1:=⟨(nx (c :: r)).len-1,by omega⟩;have hb:=brk_drop m c r false (by omega);have hd:(c :: r).drop (nx (c :: r)).len=r.drop m:=by rw[hm,List.drop_succ_cons]
  have h1:=(brk_le (letterB ((c :: r).getD m 0)) (r.drop m)).2;simp only[Bool.false_and,Bool.false_eq_true,if_false] at hb;rw[lexR_cons,if_neg (by simpa using he),sc_ok _ _ _ he,put_snd];by_cases hk:(nx (c :: r)).kind=0
  ·rw[if_pos hk,ih _ acc (by rw[hd];omega)];have:∀y,put (nx (c :: r)) n y=y:=fun y=>(by unfold put;rw[if_pos hk]);rw[this]
  have hmax:=(nx_valid c r n he hk).2.2;have h2:brk false (r.drop m)≤brk (letterB ((c :: r).getD m 0)) (r.drop m):=by
   rw[hm,List.drop_succ_cons] at hmax;cases hq:r.drop m with
   |nil=>simp[brk]
   |cons d q =>
    have:=hmax d q hq;simp only[Nat.add_sub_cancel] at this;simp only[brk,this];simp
  rw[if_neg hk,if_neg (by omega),ih _ _ (by rw[hd,List.length_append];simp;omega)];split
  ·rename_i h0;rw[put_fst _ _ _ h0,if_neg hk];simp
  rfl
end Lfc
namespace Lfc
theorem lex_sc(l:List UInt8)(h:l.length≤65536)(hb:brk false l≤20000):lex l=if (sc 0 l).2.1=0 then((sc 0 l).1,(sc 0 l).2) else([],(sc 0 l).2):=by
 rw[lex_eq,if_neg (by omega),lexR_sc l 0 [] (by simpa using hb)];simp
theorem lex_sc'(l:List UInt8)(h:l.length≤65536)(hb:brk false l≤20000):lex l=sc 0 l:=by
 rw[lex_sc l h hb];split
 ·rfl
 rename_i h0;exact Prod.ext (sc_none l 0 h0).symm rfl
theorem name_not(c:UInt8)(h:nameB c=true):blankB c=false∧¬c.toNat=37:=by
 have:=of_decide_eq_true h;exact⟨decide_eq_false (by omega),by omega⟩
theorem special_not'(c:UInt8)(h:specialB c=true):blankB c=false∧¬c.toNat=37∧nameB c=false:=by
 have:=of_decide_eq_true h;exact⟨decide_eq_false (by omega),by omega,decide_eq_false (by omega)⟩
theorem sc_blank(n:Nat)(c:UInt8)(r:List UInt8)(h:blankB c=true):sc n (c :: r)=sc (n+1) r:=by
 have e:nx (c :: r)=⟨0,[],1,0⟩:=by simp only[nx];rw[h,if_pos rfl]
 rw[sc_ok _ _ _ (by rw[e]),e];simp[put]
end Lfc
namespace Lfc
theorem lexF_ok:∀(f n:Nat)(l:List UInt8)(acc:List Tok),acc.length≤20000→(∀t∈acc,valid t)→(lexF f n l acc).2.1=0→(lexF f n l acc).1.length≤20000∧∀t∈(lexF f n l acc).1,valid t
 |0,n,l,acc,h1,h2,_=>⟨h1,h2⟩
 |f+1,n,[],acc,h1,h2,_=>⟨h1,h2⟩
 |f+1,n,c :: r,acc,h1,h2,h3=>by
  rw[lexF] at h3 ⊢;split at h3
  ·rename_i he;exact absurd h3 he
  rename_i he;rw[if_neg he];split at h3
  ·rename_i hk;rw[if_pos hk];exact lexF_ok f _ _ acc h1 h2 h3
  rename_i hk;rw[if_neg hk];split at h3
  ·simp at h3
  rename_i ha;rw[if_neg ha];refine lexF_ok f _ _ _ (by rw[List.length_append];simp;omega) (fun t ht=>?_) h3;rcases List.mem_append.1 ht with ht | ht
  ·exact h2 t ht
  simp at ht;subst ht;exact(nx_valid c r n (Decidable.byContradiction he) hk).1
theorem lex_good{l:List UInt8}(h:(lex l).2.1=0):l.length≤65536∧(lex l).1.length≤20000∧∀t∈(lex l).1,valid t:=by
 unfold lex at h ⊢;split at h
 ·simp at h
 rename_i hl;rw[if_neg hl];exact⟨by omega,lexF_ok _ _ _ _ (by simp) (by simp) h⟩
theorem valid_le{t:Tok}(h:valid t):t.text.length≤64∧t.text≠[]:=by
 rcases h with⟨_,h1,h2,_⟩ | ⟨_,c,_,h⟩ | ⟨_,h1,h2,_⟩
 ·exact⟨h2,h1⟩
 ·rw[h];simp
 exact⟨h2,h1⟩
end Lfc
namespace Lfc
def NzE{α:Type}(r:PR α):Prop:=∀c a,r=.err c a→c≠0
theorem NzE.ok{α:Type}(x:α)(k:Nat):NzE (.ok x k:PR α):=fun _ _ h=>by cases h
theorem NzE.then{α β:Type}{r:PR α}{f:α→Nat→PR β}(h:NzE r)(hf:∀x k,NzE (f x k)):NzE (r.then f):=by
 cases r with
 |out=>intro c a e;cases e
 |err c' a'=>intro c a e;cases e;exact h _ _ rfl
 |ok x k=>exact hf x k
theorem nz_unexp{α:Type}(p:PE)(k:Nat):NzE (p.unexp k:PR α):=by
 intro c a h;unfold PE.unexp at h;split at h <;> cases h <;> decide
theorem nz_opdsG{g:Nat→PR (Option Opd)}(hg:∀k,NzE (g k)):∀(m k:Nat)(acc:List Opd),NzE (opdsG g m k acc)
 |0,_,_=>fun _ _ h=>by cases h
 |m+1,k,acc=>by
  intro c a h;unfold opdsG at h;cases hr:g k with
  |out=>rw[hr] at h;cases h
  |err e b=>rw[hr] at h;cases h;exact hg k _ _ hr
  |ok o k' =>
   rw[hr] at h;cases o with
   |none=>cases h
   |some x=>exact nz_opdsG hg m k' _ c a h
theorem nz_exprG{p:PE}{g:Nat→PR (Option Opd)}(hg:∀k,NzE (g k))(k:Nat):NzE (p.exprG g k):=by
 unfold PE.exprG;refine NzE.then (nz_opdsG hg _ _ _) (fun s k'=>?_);split
 ·exact nz_unexp _ _
 split
 ·rename_i h;intro c a e;cases e;exact h
 exact NzE.ok _ _
theorem nz_punct(p:PE)(k:Nat)(s:List UInt8):NzE (p.punct k s):=by
 unfold PE.punct;split
 ·exact NzE.ok _ _
 exact nz_unexp _ _
theorem nz_name(p:PE)(k:Nat):NzE (p.name k):=by
 unfold PE.name;split
 ·exact NzE.ok _ _
 exact nz_unexp _ _
theorem nz_parG{p:PE}{g:Nat→PR (Option Opd)}(hg:∀k,NzE (g k))(k:Nat):NzE (p.parG g k):=by
 unfold PE.parG;refine NzE.then (nz_exprG hg _) (fun t k1=>NzE.then ?_ (fun u k2=>NzE.then (nz_punct p _ _) (fun _ _=>NzE.ok _ _)));split
 ·exact NzE.then (nz_exprG hg _) (fun _ _=>NzE.ok _ _)
 exact NzE.ok _ _
theorem nz_bindG{p:PE}{g:Nat→PR (Option Opd)}(hg:∀k,NzE (g k))(kd:Int)(e:List UInt8)(k:Nat):NzE (p.bindG g kd e k):=by
 unfold PE.bindG;have hb:NzE (p.bindN (k+1)):=by
  unfold PE.bindN;split
  ·exact NzE.ok _ _
  exact nz_name _ _
 refine NzE.then hb (fun n k1=>NzE.then ?_ (fun l k2=>NzE.then (nz_punct p _ _) (fun _ k3=>NzE.then (nz_exprG hg _) (fun _ _=>NzE.ok _ _))));split
 ·exact NzE.then (nz_exprG hg _) (fun _ _=>NzE.ok _ _)
 exact NzE.ok _ _
theorem nz_opdF(p:PE):∀f k,NzE (p.opdF f k)
 |0,_=>fun _ _ h=>by cases h
 |f+1,k=>by
  rw[PE.opdF];unfold PE.opdG;have hg:=nz_opdF p f;repeat' split
  all_goals first | exact NzE.ok _ _ | exact NzE.then (nz_parG hg _) (fun _ _=>NzE.ok _ _) | exact NzE.then (nz_bindG hg _ _ _) (fun _ _=>NzE.ok _ _)
theorem nz_expr(p:PE)(k:Nat):NzE (p.expr k):=nz_exprG (nz_opdF p _) k
end Lfc
