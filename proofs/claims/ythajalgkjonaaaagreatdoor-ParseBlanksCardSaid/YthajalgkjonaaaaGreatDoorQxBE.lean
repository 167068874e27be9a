/- Parts of the proof that no input makes the law false: PaBlW,PaDoorB,RowParseBlanks. -/
import Derived.Test.YthajalgkjonaaaaGreatDoorQxAB
import Derived.Test.YthajalgkjonaaaaGreatDoorQxAJ
import Derived.Test.YthajalgkjonaaaaGreatDoorQxAV
import Derived.Test.YthajalgkjonaaaaGreatDoorQxBD
set_option linter.unusedVariables false
set_option linter.unusedSimpArgs false
namespace Lfc
theorem made_toks{s:List UInt8}{q:List Op}{n:Nat}(h:Made s q n)(hn:n≤4):(sc 0 s).1.length≤1600∧∀t∈(sc 0 s).1,valid t∧(spT t).length≤100:=by
 have h1:=(made_ext h hn).1
 have hcnt:=Nat.le_trans (sc_count s 0) (brk_len s false)
 have hv:=sc_valid s 0
 refine⟨by omega,fun t ht=>⟨hv t ht,?_⟩⟩
 have:=(valid_le (hv t ht)).1
 unfold spT
 split
 ·simp only[List.length_cons];omega
 ·omega
theorem rend_snoc(ps:List (Tok × List UInt8))(t:Tok)(g:List UInt8):rend (ps++[(t,g)])=rend ps++(spT t++g):=by simp[rend]
end Lfc
namespace Go.Proofs.YthajalgkjonaaaaGreatDoor
open Go.RowKit
theorem gap_mem{i:Nat}(h:i<4):Lfc.gaps4.getD i []∈Lfc.gaps4:=by
 have hl:i<Lfc.gaps4.length:=h
 rw[List.getD_eq_getElem?_getD,List.getElem?_eq_getElem hl]
 exact List.getElem_mem hl
theorem gap_len{i:Nat}(h:i<4):(Lfc.gaps4.getD i []).length≤9:=(Lfc.gaps4_ok _ (gap_mem h)).2
theorem slice_tok{b o c k:Nat}{l:List Lfc.Tok}(hk:k<l.length)(hc:l.length≤c):∃A3 c3,(∀W:World,(Instr.sliceAt 61 (.slice (some ⟨b,o,none⟩) l.length c) (some (.int .i64 (k:Int))) (some (.int .i64 ((k:Int)+1))) none).run Tryz.prog W=.ok (.slice A3 1 c3) W) ∧
  ∀W,TokAt W (.slice (some ⟨b,o,none⟩) l.length c) l→TokAt W (.slice A3 1 c3) [l[k]]:=by
 refine⟨some ⟨b,o+k*3,none⟩,c-k,fun W=>?_,fun W h=>?_⟩
 ·have hsz:(sizeOf (Tryz.prog.elem 61)).run Tryz.prog W=.ok 3 W:=by kernel_rfl
  rw[run_sliceAt_slice _ _ _ _ _ _ (by kernel_rfl),run_slice_lh _ _ _ _ _ (by kernel_rfl) .i64 .i64 (k:Int) ((k:Int)+1) (by omega) (by omega) (by omega),hsz]
  have e1:((k:Int)+1).toNat=k+1:=by omega
  have hck:¬c=k:=by omega
  simp only[Result.andThen,sliced,Int.toNat_natCast,e1,Option.map_some,Go.WideShapes.add_plain,if_neg hck,Nat.add_sub_cancel_left]
 ·obtain⟨A,c',e,h1,h2⟩:=h
  cases e
  refine⟨_,_,rfl,by simp;omega,fun _=>?_⟩
  obtain⟨b',o',e',hb,hcl⟩:=h2 (by omega)
  cases e'
  refine⟨b,o+k*3,rfl,hb,fun j t hj=>?_⟩
  have hj0:j=0:=by
   rcases Nat.eq_zero_or_pos j with h | h
   ·exact h
   ·rw[List.getElem?_eq_none (by simp;omega)] at hj;cases hj
  subst hj0
  simp at hj
  subst hj
  have:=hcl k l[k] (List.getElem?_eq_getElem hk)
  simpa using this
theorem own_keepB{w w':World}{base:Nat}{e:TypeId}{size n:Nat}{v:Value}{xs:List Value}(h:w.ownsRow base e size v n xs)(hk:∀g,v.ownBlock=some g→w'.heap[g]?=w.heap[g]?):w'.ownsRow base e size v n xs:=by
 refine⟨h.1,?_⟩
 rcases h.2 with e | ⟨g,cap,cur,hv,hbg,hg,r⟩
 ·exact .inl e
 ·exact .inr ⟨g,cap,cur,hv,hbg,(hk g (by rw[hv];rfl)).trans hg,r⟩
structure BlI(w4 W:World)(A:Option Addr)(c:Nat)(acc:List UInt8):Prop where
 own:W.ownsRow w4.heap.size 5 1 (.slice A acc.length c) acc.length (Lib.byteCells acc)
 bel:Below w4.heap.size w4 W
theorem BlI.below{w4 W W':World}{A:Option Addr}{c:Nat}{acc:List UInt8}(h:BlI w4 W A c acc)(b:Below W.heap.size W W'):BlI w4 W' A c acc :=
 ⟨own_keepB h.own (fun g hg=>b.block g (h.own.lt g hg).2),h.bel.trans (b.mono h.bel.size)⟩
theorem BlI.push{w4 W W':World}{A:Option Addr}{c:Nat}{acc bs:List UInt8}{v:Value}(h:BlI w4 W A c acc)(hown:W'.ownsRow w4.heap.size 5 1 v (acc.length+(⟨bs.toArray⟩:ByteArray).size) (Lib.byteCells acc++Lib.strCells ⟨bs.toArray⟩))(hg:W.grownBy W' (Value.slice A acc.length c).ownBlock) :
  ∃A' c',v=.slice A' (acc++bs).length c'∧BlI w4 W' A' c' (acc++bs):=by
 have e:Lib.byteCells (acc++bs)=Lib.byteCells acc++Lib.strCells ⟨bs.toArray⟩:=by simp[Lib.byteCells,Lib.strCells]
 rw[bsize,←e,←List.length_append] at hown
 obtain⟨A',c',rfl⟩:=own_form hown
 exact⟨A',c',rfl,hown,h.bel.grown hg h.bel.size (own_block_ge h.own)⟩
def gapV:Array Value:=#[S [32],S [10,10],S [32,37,32,120,10],S [32,37,123,32,121,32,125,37,32]]
def GapB(W:World)(G:Nat):Prop:=W.heap[G]?=some (.cells gapV 9 (0,0))
theorem GapB.cell{W:World}{G i:Nat}(h:GapB W G)(hi:i<4):W.cell? ⟨G,i,none⟩=some (S (Lfc.gaps4.getD i [])):=by
 rw[Lib.cell_of_heap h i]
 match i,hi with
 |0,_=>rfl
 |1,_=>rfl
 |2,_=>rfl
 |3,_=>rfl
theorem GapB.below{W W':World}{G:Nat}(h:GapB W G)(b:Below W.heap.size W W'):GapB W' G:=(b.block G (lt_of_block h)).trans h
theorem GapB.grown{w4 W W':World}{G:Nat}{A:Option Addr}{c:Nat}{acc:List UInt8}(h:GapB W G)(hb:BlI w4 W A c acc)(hg:W.grownBy W' (Value.slice A acc.length c).ownBlock):GapB W' G:=by
 refine(hg.block G (lt_of_block h) (fun e=>?_)).trans h
 rcases hb.own.2 with⟨hv,_⟩ | ⟨g,cap,cur,hv,_,hc,_⟩
 ·rw[hv] at e;cases e
 ·rw[hv] at e
  have e:G=g:=Option.some.inj e
  subst e
  unfold GapB at h
  rw[h] at hc
  exact absurd hc (by simp)
set_option maxRecDepth 100000 in
set_option maxHeartbeats 8000000 in
theorem parseBlanks_walk(v0 v1:Value)(z0 z1:List Int)(w:World)(i0:IntsAt w v0 z0)(i1:IntsAt w v1 z1) :
  Calls Tryz.prog 7 #[v0,v1] w fun e w'=>e=.returned (.bool true)∧Below w.heap.size w w':=by
 obtain⟨ib,hbi,hbz0,hbz1,hbz2⟩:=info_parts byteInfo
 obtain⟨is,hi,hz0,hz1,hz2⟩:=str_infoT
 obtain⟨wT,hwT⟩:∃wT,w.alloc (.cells #[v0,.int .i64 0] 50)=wT:=⟨_,rfl⟩
 have bT:Below w.heap.size w wT:=by rw[←hwT];exact(Below.refl _ _).alloc (Nat.le_refl _) _
 have qT:wT.heap[w.heap.size]?=some (.cells #[v0,.int .i64 0] 50 (0,0)):=by rw[←hwT];exact heap_alloc_new _ _
 have C1:=Lib.hid (madeText_any w.heap.size wT (tapeL_new i0 w.heap.size (Nat.le_refl _) bT qT))
 have BT:=Lib.hid bT
 have I1:=Lib.hid i1
 obtain⟨A0,c0,rfl,_⟩:=i0
 obtain⟨A1,c1,rfl,hmax1,hcell1⟩:=i1
 have HC1:=Lib.hid hcell1
 have hmx1:z1.length≤9223372036854775807:=by unfold maxLen at hmax1;omega
 clear bT qT hcell1 hmax1
 go_enter Tryz.func7,Tryz.ntmps7
 go_upto_region 2 with(go_at_call 21;refine C1.out.mono ?_;rintro e w2⟨⟨s,kk,uu,n,rfl,hkk,hmT,hn⟩,t2,o2⟩)
 have hmade:=hmT.made hkk (by omega)
 generalize Lfc.libOps kk uu=q at *
 have b2:Below w.heap.size w w2:=Oth.below BT.out o2 (Nat.le_refl _) BT.out.size
 obtain⟨e1,e2,a,k0,e3⟩:=Lfc.made_ext hmade hn
 obtain⟨e4,e5⟩:=Lfc.made_toks hmade hn
 have hlex0:(Lfc.lex s).2.1=0:=by rw[e2]
 have P1:=Lib.hid (fun W=>parse_any s W (by omega) (dirsOK_all hlex0))
 rw[e3] at P1
 have LX:=Lib.hid (fun W=>lex_any s W (by omega))
 rw[e2] at LX
 have LAW:=Lib.hid (fun ps hp hg=>Lfc.blank_law (by omega) e2 e3 ps hp hg)
 have hfa:=Lfc.ext_fit e3
 have hoa:=Lfc.ext_ops e3
 have HV:=Lib.hid e5
 have B2:=Lib.hid b2
 generalize (Lfc.sc 0 s).1=T at *
 clear hmade hmT hkk t2 o2 b2 e2 e3 e5 hlex0 C1 hwT
 go_upto_region 3 with(go_at_call 9;refine(P1.out _).mono ?_;rintro e w3⟨⟨xs,A,ca,B,d,hxs,rfl,hv,hcap,ho⟩,b3⟩)
 have B3:=Lib.hid (B2.out.trans (b3.mono B2.out.size))
 have HXV:=Lib.hid hv
 have HXO:=Lib.hid ho
 clear hv ho b3 P1
 go_upto_region 4 with(go_at_call 22;refine(LX.out _).mono ?_;rintro e w4⟨v4,rfl,hown4,b4⟩;obtain⟨A4,c4,rfl⟩:=own_form hown4)
 have HT4:=Lib.hid (TokAt.of_own hown4)
 have B4:=Lib.hid (B3.out.trans (b4.mono B3.out.size))
 have HXV4:=Lib.hid (HXV.out.below b4)
 have HXO4:=Lib.hid (HXO.out.below b4)
 clear hown4 b4 LX HXV HXO
 go_wp2_with fail
 go_loopw [13,14] (fun bv iv wr=>∃(k:Nat)(ps:List (Lfc.Tok × List UInt8))(OA:Option Addr)(oc:Nat),k≤T.length∧iv=.int .i64 (k:Int)∧ps.map Prod.fst=T.take k∧Hid (∀p∈ps,p.2∈Lfc.gaps4)∧bv=.slice OA (Lfc.rend ps).length oc∧Hid (BlI w4 wr OA oc (Lfc.rend ps))∧(Lfc.rend ps).length≤109*k) (fun _ iv _=>T.length-(intOf iv).toNat)
 case atStart=>exact⟨0,[],none,0,by omega,rfl,rfl,Lib.hid (fun p hp=>by cases hp),rfl,Lib.hid ⟨own_nil _ _ _ _,Below.refl _ _⟩,by simp[Lfc.rend]⟩
 case round =>
  obtain⟨k,ps,OA,oc,hk,rfl,hps,HG,rfl,HI,hrl⟩:=hrel
  by_cases hlt:k<T.length
  ·obtain⟨Ax,cx,ex,hcx,hT⟩:=HT4.out
   cases ex
   obtain⟨bt,ot,rfl,hbt,_⟩:=hT (by omega)
   obtain⟨A3,c3,hsl,htk⟩:=slice_tok (b:=bt) (o:=ot) (c:=c4) hlt hcx
   have hsp1:=(HV.out T[k] (List.getElem_mem _)).2
   obtain⟨spt,hspt⟩:∃spt,Lfc.spT T[k]=spt:=⟨_,rfl⟩
   have HSPT:=Lib.hid hspt
   rw[hspt] at hsp1
   have CSP:Hid (∀W,Below w4.heap.size w4 W→Calls Tryz.prog 24 #[.slice A3 1 c3] W fun e w'=>e=.returned (S spt)∧Below W.heap.size W w'):=Lib.hid fun W hb=>by
    have:=spell_any (.slice A3 1 c3) [T[k]] W (htk W (HT4.out.below hb)) (by simp) (by simp[Lfc.spell,hspt];omega)
    rwa[show Lfc.spell [T[k]]=spt by simp[Lfc.spell,hspt]] at this
   have HTK:Hid (T.take (k+1)=T.take k++[T[k]]):=Lib.hid (List.take_succ_eq_append_getElem hlt)
   have hk0:(0:Int)≤(k:Int):=Int.natCast_nonneg _
   have hk1:(k:Int)+1≤(T.length:Int):=by omega
   have hkw:IntKind.i64.wrap ((k:Int)+1)=(k:Int)+1:=IntWalk.i64_in _ (by omega)
   rw[←hkw] at hsl
   clear hT hbt htk hspt hcx hkw
   by_cases hm:k<z1.length
   ·obtain⟨b1,o1,rfl,hb1,hc1⟩:=HC1.out (by omega)
    have hbw:=B4.out.trans (HI.out.bel.mono B4.out.size)
    have hx1:wr.cell? ⟨b1,o1+k,none⟩=some (.int .i64 (z1.getD k 0)):=(hbw.cell (p:=⟨b1,o1+k,none⟩) hb1).trans (hc1 k hm)
    have hgi:=cutI_lt (z1.getD k 0) 4 (by omega)
    have CC:=Lib.hid (fun W=>cut_any (z1.getD k 0) 4 W (by omega) (by omega))
    generalize z1.getD k 0=x at *
    generalize cutI x 4=gi at *
    clear hc1 hbw
    have HGA:Hid (∀p∈ps++[(T[k],Lfc.gaps4.getD gi [])],p.2∈Lfc.gaps4):=Lib.hid (fun p hp=>by
     rcases List.mem_append.1 hp with h | h
     ·exact HG.out p h
     ·simp at h
      subst h
      exact gap_mem hgi)
    have HRS:Hid (Lfc.rend (ps++[(T[k],Lfc.gaps4.getD gi [])])=Lfc.rend ps++spt++Lfc.gaps4.getD gi []):=Lib.hid (by rw[Lfc.rend_snoc,HSPT.out,List.append_assoc])
    have hgl:(Lfc.gaps4.getD gi []).length≤9:=gap_len hgi
    have HLN:Hid ((Lfc.rend ps).length+spt.length≤1000000∧(Lfc.rend ps++spt).length+(Lfc.gaps4.getD gi []).length≤1000000∧(Lfc.rend ps++spt++Lfc.gaps4.getD gi []).length≤109*k+109):=Lib.hid (by simp only[List.length_append];omega)
    clear hgl
    have hgi0:(0:Int)≤(gi:Int):=Int.natCast_nonneg _
    have hgi1:(gi:Int)<4:=by omega
    go_upto_region 13 with(go_at_call 23;refine(CC.out _).mono ?_;rintro e wc⟨rfl,hwc⟩;have hwc:=hwc.symm;subst hwc)
    clear hx1 CC
    obtain⟨wd,hwd⟩:∃wd,wr.drew=wd:=⟨_,rfl⟩
    have BIwd:Hid (BlI w4 wd OA oc (Lfc.rend ps)):=Lib.hid (by rw[←hwd];exact HI.out.below (Below.refl _ _).drew)
    refine wp_region_held_drew (S:=fun _=>True) (by kernel_rfl) trivial (fun hHeld=>?_)
    rw[hwd]
    clear hwd
    refine tk 0 ?_
    refine tk 1 ?_
    refine tk 2 ?_
    refine tk 3 ?_
    refine tk 4 ?_
    refine tk 5 ?_
    refine tk 9 ?_
    refine wpAnyH_ready (rs:=[6,8]) (by kernel_rfl) (by simp) (AllReadyH.cons rfl (fun K hK=>?_) (AllReadyH.cons rfl (fun K hK=>?_) AllReadyH.nil))
    ·as_aux_lemma =>
      go_simp
      go_at_call 24
      refine(CSP.out wd BIwd.out.bel).mono ?_
      rintro e w6⟨rfl,bw6⟩
      have BIw6:=Lib.hid (BIwd.out.below bw6)
      go_simp
      refine hK.out _ _ trivial (fun hHeld=>?_)
      clear hK K
      refine nrm ?_
      clear bw6
      refine wpAnyH_ready (rs:=[7,8]) (by kernel_rfl) (by simp) (AllReadyH.cons rfl (fun K hK=>?_) (AllReadyH.cons rfl (fun K hK=>?_) AllReadyH.nil))
      ·as_aux_lemma =>
        refine step_append_strP _ (by rfl) _ _ 68 9 (by rfl) w4.heap.size 5 ib Tryz.underlying68 Tryz.underlying9 hbi hbz0 hbz1 hbz2 _ _ _ (by rfl) BIw6.out.own ⟨(spt).toArray⟩ (by rfl) (by rw[bsize];unfold maxLen;have:=HLN.out.1;omega) (by rw[bsize];have:=HLN.out.1;omega) BIw6.out.bel.size ?_
        intro vw7 w7 hownw7 hgw7
        obtain⟨Aw7,cw7,rfl,biw7⟩:=BIw6.out.push hownw7 hgw7
        have BIw7:=Lib.hid biw7
        clear biw7
        obtain⟨acc2,hac2⟩:∃x,Lfc.rend ps++spt=x:=⟨_,rfl⟩
        have HAC:=Lib.hid hac2
        rw[hac2] at BIw7 ⊢
        clear hac2
        refine hK.out _ _ trivial (fun hHeld=>?_)
        clear hK K
        refine nrm ?_
        clear hownw7 hgw7
        refine wpAnyH_ready (rs:=[8]) (by kernel_rfl) (by simp) (AllReadyH.cons rfl (fun K hK=>?_) AllReadyH.nil)
        go_simp
        obtain⟨w8,hww8⟩:∃w8,w7.alloc (.cells gapV 9)=w8:=⟨_,rfl⟩
        have bw8:Below w7.heap.size w7 w8:=by rw[←hww8];exact(Below.refl _ _).alloc (Nat.le_refl _) _
        have GBw8:GapB w8 w7.heap.size:=by unfold GapB;rw[←hww8];exact heap_alloc_new _ _
        have BIw8:=Lib.hid (BIw7.out.below bw8)
        unfold gapV at hww8
        try rw[hww8]
        refine hK.out _ _ trivial (fun hHeld=>?_)
        clear hK K bw8 hHeld
        refine nrm ?_
        generalize w7.heap.size=G at *
        clear hww8
        refine wpAnyH_mono (S':=fun W=>W.cell? ⟨G,gi,none⟩=some (S (Lfc.gaps4.getD gi []))) (fun W h=>trivial) _ _ _ _ ?_
        have hHeld:=GBw8.cell hgi
        refine tk 10 ?_
        refine tk 11 ?_
        refine wpAnyH_ready (rs:=[12]) (by kernel_rfl) (by simp) (AllReadyH.cons rfl (fun K hK=>?_) AllReadyH.nil)
        refine step_append_strP _ (by rfl) _ _ 68 9 (by rfl) w4.heap.size 5 ib Tryz.underlying68 Tryz.underlying9 hbi hbz0 hbz1 hbz2 _ _ _ (by rfl) BIw8.out.own ⟨(Lfc.gaps4.getD gi []).toArray⟩ (by rfl) (by rw[bsize];unfold maxLen;have:=HLN.out.2.1;rw[HAC.out] at this;omega) (by rw[bsize];have:=HLN.out.2.1;rw[HAC.out] at this;omega) BIw8.out.bel.size ?_
        intro vw9 w9 hownw9 hgw9
        obtain⟨Aw9,cw9,rfl,biw9⟩:=BIw8.out.push hownw9 hgw9
        have BIw9:=Lib.hid biw9
        clear biw9
        have GBw9:=GBw8.grown BIw8.out hgw9
        refine hK.out _ _ (GBw9.cell hgi) (fun hHeld=>?_)
        clear hK K
        refine nrm ?_
        clear hownw9 hgw9
        refine tk 13 ?_
        refine wpAnyH_done (by kernel_rfl) ?_ _
        go_wp2_with fail
        go_roundw
        case rel=>exact⟨k+1,ps++[(T[k],Lfc.gaps4.getD gi [])],Aw9,cw9,by omega,by go_num,by rw[List.map_append,hps,HTK.out];rfl,HGA.out,by rw[HRS.out,HAC.out];simp,Lib.hid (by rw[HRS.out,HAC.out];exact BIw9.out),by rw[HRS.out];have:=HLN.out.2.2;omega⟩
        case measure=>simp[intOf];omega
      ·as_aux_lemma =>
        go_simp
        obtain⟨w7,hww7⟩:∃w7,w6.alloc (.cells gapV 9)=w7:=⟨_,rfl⟩
        have bw7:Below w6.heap.size w6 w7:=by rw[←hww7];exact(Below.refl _ _).alloc (Nat.le_refl _) _
        have GBw7:GapB w7 w6.heap.size:=by unfold GapB;rw[←hww7];exact heap_alloc_new _ _
        have BIw7:=Lib.hid (BIw6.out.below bw7)
        unfold gapV at hww7
        try rw[hww7]
        refine hK.out _ _ trivial (fun hHeld=>?_)
        clear hK K bw7 hHeld
        refine nrm ?_
        generalize w6.heap.size=G at *
        clear hww7
        refine wpAnyH_mono (S':=fun W=>W.cell? ⟨G,gi,none⟩=some (S (Lfc.gaps4.getD gi []))) (fun W h=>trivial) _ _ _ _ ?_
        have hHeld:=GBw7.cell hgi
        refine tk 10 ?_
        refine tk 11 ?_
        refine wpAnyH_ready (rs:=[7]) (by kernel_rfl) (by simp) (AllReadyH.cons rfl (fun K hK=>?_) AllReadyH.nil)
        refine step_append_strP _ (by rfl) _ _ 68 9 (by rfl) w4.heap.size 5 ib Tryz.underlying68 Tryz.underlying9 hbi hbz0 hbz1 hbz2 _ _ _ (by rfl) BIw7.out.own ⟨(spt).toArray⟩ (by rfl) (by rw[bsize];unfold maxLen;have:=HLN.out.1;omega) (by rw[bsize];have:=HLN.out.1;omega) BIw7.out.bel.size ?_
        intro vw8 w8 hownw8 hgw8
        obtain⟨Aw8,cw8,rfl,biw8⟩:=BIw7.out.push hownw8 hgw8
        have BIw8:=Lib.hid biw8
        clear biw8
        obtain⟨acc2,hac2⟩:∃x,Lfc.rend ps++spt=x:=⟨_,rfl⟩
        have HAC:=Lib.hid hac2
        rw[hac2] at BIw8 ⊢
        clear hac2
        have GBw8:=GBw7.grown BIw7.out hgw8
        refine hK.out _ _ (GBw8.cell hgi) (fun hHeld=>?_)
        clear hK K
        refine nrm ?_
        clear hownw8 hgw8
        refine wpAnyH_ready (rs:=[12]) (by kernel_rfl) (by simp) (AllReadyH.cons rfl (fun K hK=>?_) AllReadyH.nil)
        refine step_append_strP _ (by rfl) _ _ 68 9 (by rfl) w4.heap.size 5 ib Tryz.underlying68 Tryz.underlying9 hbi hbz0 hbz1 hbz2 _ _ _ (by rfl) BIw8.out.own ⟨(Lfc.gaps4.getD gi []).toArray⟩ (by rfl) (by rw[bsize];unfold maxLen;have:=HLN.out.2.1;rw[HAC.out] at this;omega) (by rw[bsize];have:=HLN.out.2.1;rw[HAC.out] at this;omega) BIw8.out.bel.size ?_
        intro vw9 w9 hownw9 hgw9
        obtain⟨Aw9,cw9,rfl,biw9⟩:=BIw8.out.push hownw9 hgw9
        have BIw9:=Lib.hid biw9
        clear biw9
        have GBw9:=GBw8.grown BIw8.out hgw9
        refine hK.out _ _ (GBw9.cell hgi) (fun hHeld=>?_)
        clear hK K
        refine nrm ?_
        clear hownw9 hgw9
        refine tk 13 ?_
        refine wpAnyH_done (by kernel_rfl) ?_ _
        go_wp2_with fail
        go_roundw
        case rel=>exact⟨k+1,ps++[(T[k],Lfc.gaps4.getD gi [])],Aw9,cw9,by omega,by go_num,by rw[List.map_append,hps,HTK.out];rfl,HGA.out,by rw[HRS.out,HAC.out];simp,Lib.hid (by rw[HRS.out,HAC.out];exact BIw9.out),by rw[HRS.out];have:=HLN.out.2.2;omega⟩
        case measure=>simp[intOf];omega
    ·as_aux_lemma =>
      go_simp
      obtain⟨w6,hww6⟩:∃w6,wd.alloc (.cells gapV 9)=w6:=⟨_,rfl⟩
      have bw6:Below wd.heap.size wd w6:=by rw[←hww6];exact(Below.refl _ _).alloc (Nat.le_refl _) _
      have GBw6:GapB w6 wd.heap.size:=by unfold GapB;rw[←hww6];exact heap_alloc_new _ _
      have BIw6:=Lib.hid (BIwd.out.below bw6)
      unfold gapV at hww6
      try rw[hww6]
      refine hK.out _ _ trivial (fun hHeld=>?_)
      clear hK K bw6 hHeld
      refine nrm ?_
      generalize wd.heap.size=G at *
      clear hww6
      refine wpAnyH_mono (S':=fun W=>W.cell? ⟨G,gi,none⟩=some (S (Lfc.gaps4.getD gi []))) (fun W h=>trivial) _ _ _ _ ?_
      have hHeld:=GBw6.cell hgi
      refine tk 10 ?_
      refine tk 11 ?_
      refine wpAnyH_ready (rs:=[6]) (by kernel_rfl) (by simp) (AllReadyH.cons rfl (fun K hK=>?_) AllReadyH.nil)
      go_simp
      go_at_call 24
      refine(CSP.out w6 BIw6.out.bel).mono ?_
      rintro e w7⟨rfl,bw7⟩
      have BIw7:=Lib.hid (BIw6.out.below bw7)
      have GBw7:=GBw6.below bw7
      go_simp
      refine hK.out _ _ (GBw7.cell hgi) (fun hHeld=>?_)
      clear hK K
      refine nrm ?_
      clear bw7
      refine wpAnyH_ready (rs:=[7]) (by kernel_rfl) (by simp) (AllReadyH.cons rfl (fun K hK=>?_) AllReadyH.nil)
      refine step_append_strP _ (by rfl) _ _ 68 9 (by rfl) w4.heap.size 5 ib Tryz.underlying68 Tryz.underlying9 hbi hbz0 hbz1 hbz2 _ _ _ (by rfl) BIw7.out.own ⟨(spt).toArray⟩ (by rfl) (by rw[bsize];unfold maxLen;have:=HLN.out.1;omega) (by rw[bsize];have:=HLN.out.1;omega) BIw7.out.bel.size ?_
      intro vw8 w8 hownw8 hgw8
      obtain⟨Aw8,cw8,rfl,biw8⟩:=BIw7.out.push hownw8 hgw8
      have BIw8:=Lib.hid biw8
      clear biw8
      obtain⟨acc2,hac2⟩:∃x,Lfc.rend ps++spt=x:=⟨_,rfl⟩
      have HAC:=Lib.hid hac2
      rw[hac2] at BIw8 ⊢
      clear hac2
      have GBw8:=GBw7.grown BIw7.out hgw8
      refine hK.out _ _ (GBw8.cell hgi) (fun hHeld=>?_)
      clear hK K
      refine nrm ?_
      clear hownw8 hgw8
      refine wpAnyH_ready (rs:=[12]) (by kernel_rfl) (by simp) (AllReadyH.cons rfl (fun K hK=>?_) AllReadyH.nil)
      refine step_append_strP _ (by rfl) _ _ 68 9 (by rfl) w4.heap.size 5 ib Tryz.underlying68 Tryz.underlying9 hbi hbz0 hbz1 hbz2 _ _ _ (by rfl) BIw8.out.own ⟨(Lfc.gaps4.getD gi []).toArray⟩ (by rfl) (by rw[bsize];unfold maxLen;have:=HLN.out.2.1;rw[HAC.out] at this;omega) (by rw[bsize];have:=HLN.out.2.1;rw[HAC.out] at this;omega) BIw8.out.bel.size ?_
      intro vw9 w9 hownw9 hgw9
      obtain⟨Aw9,cw9,rfl,biw9⟩:=BIw8.out.push hownw9 hgw9
      have BIw9:=Lib.hid biw9
      clear biw9
      have GBw9:=GBw8.grown BIw8.out hgw9
      refine hK.out _ _ (GBw9.cell hgi) (fun hHeld=>?_)
      clear hK K
      refine nrm ?_
      clear hownw9 hgw9
      refine tk 13 ?_
      refine wpAnyH_done (by kernel_rfl) ?_ _
      go_wp2_with fail
      go_roundw
      case rel=>exact⟨k+1,ps++[(T[k],Lfc.gaps4.getD gi [])],Aw9,cw9,by omega,by go_num,by rw[List.map_append,hps,HTK.out];rfl,HGA.out,by rw[HRS.out,HAC.out];simp,Lib.hid (by rw[HRS.out,HAC.out];exact BIw9.out),by rw[HRS.out];have:=HLN.out.2.2;omega⟩
      case measure=>simp[intOf];omega
   ·have hgi:0<4:=by decide
    have HGA:Hid (∀p∈ps++[(T[k],Lfc.gaps4.getD 0 [])],p.2∈Lfc.gaps4):=Lib.hid (fun p hp=>by
     rcases List.mem_append.1 hp with h | h
     ·exact HG.out p h
     ·simp at h
      subst h
      exact gap_mem hgi)
    have HRS:Hid (Lfc.rend (ps++[(T[k],Lfc.gaps4.getD 0 [])])=Lfc.rend ps++spt++Lfc.gaps4.getD 0 []):=Lib.hid (by rw[Lfc.rend_snoc,HSPT.out,List.append_assoc])
    have hgl:(Lfc.gaps4.getD 0 []).length≤9:=gap_len hgi
    have HLN:Hid ((Lfc.rend ps).length+spt.length≤1000000∧(Lfc.rend ps++spt).length+(Lfc.gaps4.getD 0 []).length≤1000000∧(Lfc.rend ps++spt++Lfc.gaps4.getD 0 []).length≤109*k+109):=Lib.hid (by simp only[List.length_append];omega)
    clear hgl
    have hgi0:(0:Int)≤(0:Int):=Int.natCast_nonneg _
    have hgi1:(0:Int)<4:=by omega
    go_upto_region 13 with fail
    obtain⟨wd,hwd⟩:∃wd,wr.drew=wd:=⟨_,rfl⟩
    have BIwd:Hid (BlI w4 wd OA oc (Lfc.rend ps)):=Lib.hid (by rw[←hwd];exact HI.out.below (Below.refl _ _).drew)
    refine wp_region_held_drew (S:=fun _=>True) (by kernel_rfl) trivial (fun hHeld=>?_)
    rw[hwd]
    clear hwd
    refine tk 0 ?_
    refine tk 1 ?_
    refine tk 2 ?_
    refine tk 3 ?_
    refine tk 4 ?_
    refine tk 5 ?_
    refine tk 9 ?_
    refine wpAnyH_ready (rs:=[6,8]) (by kernel_rfl) (by simp) (AllReadyH.cons rfl (fun K hK=>?_) (AllReadyH.cons rfl (fun K hK=>?_) AllReadyH.nil))
    ·as_aux_lemma =>
      go_simp
      go_at_call 24
      refine(CSP.out wd BIwd.out.bel).mono ?_
      rintro e w6⟨rfl,bw6⟩
      have BIw6:=Lib.hid (BIwd.out.below bw6)
      go_simp
      refine hK.out _ _ trivial (fun hHeld=>?_)
      clear hK K
      refine nrm ?_
      clear bw6
      refine wpAnyH_ready (rs:=[7,8]) (by kernel_rfl) (by simp) (AllReadyH.cons rfl (fun K hK=>?_) (AllReadyH.cons rfl (fun K hK=>?_) AllReadyH.nil))
      ·as_aux_lemma =>
        refine step_append_strP _ (by rfl) _ _ 68 9 (by rfl) w4.heap.size 5 ib Tryz.underlying68 Tryz.underlying9 hbi hbz0 hbz1 hbz2 _ _ _ (by rfl) BIw6.out.own ⟨(spt).toArray⟩ (by rfl) (by rw[bsize];unfold maxLen;have:=HLN.out.1;omega) (by rw[bsize];have:=HLN.out.1;omega) BIw6.out.bel.size ?_
        intro vw7 w7 hownw7 hgw7
        obtain⟨Aw7,cw7,rfl,biw7⟩:=BIw6.out.push hownw7 hgw7
        have BIw7:=Lib.hid biw7
        clear biw7
        obtain⟨acc2,hac2⟩:∃x,Lfc.rend ps++spt=x:=⟨_,rfl⟩
        have HAC:=Lib.hid hac2
        rw[hac2] at BIw7 ⊢
        clear hac2
        refine hK.out _ _ trivial (fun hHeld=>?_)
        clear hK K
        refine nrm ?_
        clear hownw7 hgw7
        refine wpAnyH_ready (rs:=[8]) (by kernel_rfl) (by simp) (AllReadyH.cons rfl (fun K hK=>?_) AllReadyH.nil)
        go_simp
        obtain⟨w8,hww8⟩:∃w8,w7.alloc (.cells gapV 9)=w8:=⟨_,rfl⟩
        have bw8:Below w7.heap.size w7 w8:=by rw[←hww8];exact(Below.refl _ _).alloc (Nat.le_refl _) _
        have GBw8:GapB w8 w7.heap.size:=by unfold GapB;rw[←hww8];exact heap_alloc_new _ _
        have BIw8:=Lib.hid (BIw7.out.below bw8)
        unfold gapV at hww8
        try rw[hww8]
        refine hK.out _ _ trivial (fun hHeld=>?_)
        clear hK K bw8 hHeld
        refine nrm ?_
        generalize w7.heap.size=G at *
        clear hww8
        refine wpAnyH_mono (S':=fun W=>W.cell? ⟨G,0,none⟩=some (S (Lfc.gaps4.getD 0 []))) (fun W h=>trivial) _ _ _ _ ?_
        have hHeld:=GBw8.cell hgi
        refine tk 10 ?_
        refine tk 11 ?_
        refine wpAnyH_ready (rs:=[12]) (by kernel_rfl) (by simp) (AllReadyH.cons rfl (fun K hK=>?_) AllReadyH.nil)
        refine step_append_strP _ (by rfl) _ _ 68 9 (by rfl) w4.heap.size 5 ib Tryz.underlying68 Tryz.underlying9 hbi hbz0 hbz1 hbz2 _ _ _ (by rfl) BIw8.out.own ⟨(Lfc.gaps4.getD 0 []).toArray⟩ (by rfl) (by rw[bsize];unfold maxLen;have:=HLN.out.2.1;rw[HAC.out] at this;omega) (by rw[bsize];have:=HLN.out.2.1;rw[HAC.out] at this;omega) BIw8.out.bel.size ?_
        intro vw9 w9 hownw9 hgw9
        obtain⟨Aw9,cw9,rfl,biw9⟩:=BIw8.out.push hownw9 hgw9
        have BIw9:=Lib.hid biw9
        clear biw9
        have GBw9:=GBw8.grown BIw8.out hgw9
        refine hK.out _ _ (GBw9.cell hgi) (fun hHeld=>?_)
        clear hK K
        refine nrm ?_
        clear hownw9 hgw9
        refine tk 13 ?_
        refine wpAnyH_done (by kernel_rfl) ?_ _
        go_wp2_with fail
        go_roundw
        case rel=>exact⟨k+1,ps++[(T[k],Lfc.gaps4.getD 0 [])],Aw9,cw9,by omega,by go_num,by rw[List.map_append,hps,HTK.out];rfl,HGA.out,by rw[HRS.out,HAC.out];simp,Lib.hid (by rw[HRS.out,HAC.out];exact BIw9.out),by rw[HRS.out];have:=HLN.out.2.2;omega⟩
        case measure=>simp[intOf];omega
      ·as_aux_lemma =>
        go_simp
        obtain⟨w7,hww7⟩:∃w7,w6.alloc (.cells gapV 9)=w7:=⟨_,rfl⟩
        have bw7:Below w6.heap.size w6 w7:=by rw[←hww7];exact(Below.refl _ _).alloc (Nat.le_refl _) _
        have GBw7:GapB w7 w6.heap.size:=by unfold GapB;rw[←hww7];exact heap_alloc_new _ _
        have BIw7:=Lib.hid (BIw6.out.below bw7)
        unfold gapV at hww7
        try rw[hww7]
        refine hK.out _ _ trivial (fun hHeld=>?_)
        clear hK K bw7 hHeld
        refine nrm ?_
        generalize w6.heap.size=G at *
        clear hww7
        refine wpAnyH_mono (S':=fun W=>W.cell? ⟨G,0,none⟩=some (S (Lfc.gaps4.getD 0 []))) (fun W h=>trivial) _ _ _ _ ?_
        have hHeld:=GBw7.cell hgi
        refine tk 10 ?_
        refine tk 11 ?_
        refine wpAnyH_ready (rs:=[7]) (by kernel_rfl) (by simp) (AllReadyH.cons rfl (fun K hK=>?_) AllReadyH.nil)
        refine step_append_strP _ (by rfl) _ _ 68 9 (by rfl) w4.heap.size 5 ib Tryz.underlying68 Tryz.underlying9 hbi hbz0 hbz1 hbz2 _ _ _ (by rfl) BIw7.out.own ⟨(spt).toArray⟩ (by rfl) (by rw[bsize];unfold maxLen;have:=HLN.out.1;omega) (by rw[bsize];have:=HLN.out.1;omega) BIw7.out.bel.size ?_
        intro vw8 w8 hownw8 hgw8
        obtain⟨Aw8,cw8,rfl,biw8⟩:=BIw7.out.push hownw8 hgw8
        have BIw8:=Lib.hid biw8
        clear biw8
        obtain⟨acc2,hac2⟩:∃x,Lfc.rend ps++spt=x:=⟨_,rfl⟩
        have HAC:=Lib.hid hac2
        rw[hac2] at BIw8 ⊢
        clear hac2
        have GBw8:=GBw7.grown BIw7.out hgw8
        refine hK.out _ _ (GBw8.cell hgi) (fun hHeld=>?_)
        clear hK K
        refine nrm ?_
        clear hownw8 hgw8
        refine wpAnyH_ready (rs:=[12]) (by kernel_rfl) (by simp) (AllReadyH.cons rfl (fun K hK=>?_) AllReadyH.nil)
        refine step_append_strP _ (by rfl) _ _ 68 9 (by rfl) w4.heap.size 5 ib Tryz.underlying68 Tryz.underlying9 hbi hbz0 hbz1 hbz2 _ _ _ (by rfl) BIw8.out.own ⟨(Lfc.gaps4.getD 0 []).toArray⟩ (by rfl) (by rw[bsize];unfold maxLen;have:=HLN.out.2.1;rw[HAC.out] at this;omega) (by rw[bsize];have:=HLN.out.2.1;rw[HAC.out] at this;omega) BIw8.out.bel.size ?_
        intro vw9 w9 hownw9 hgw9
        obtain⟨Aw9,cw9,rfl,biw9⟩:=BIw8.out.push hownw9 hgw9
        have BIw9:=Lib.hid biw9
        clear biw9
        have GBw9:=GBw8.grown BIw8.out hgw9
        refine hK.out _ _ (GBw9.cell hgi) (fun hHeld=>?_)
        clear hK K
        refine nrm ?_
        clear hownw9 hgw9
        refine tk 13 ?_
        refine wpAnyH_done (by kernel_rfl) ?_ _
        go_wp2_with fail
        go_roundw
        case rel=>exact⟨k+1,ps++[(T[k],Lfc.gaps4.getD 0 [])],Aw9,cw9,by omega,by go_num,by rw[List.map_append,hps,HTK.out];rfl,HGA.out,by rw[HRS.out,HAC.out];simp,Lib.hid (by rw[HRS.out,HAC.out];exact BIw9.out),by rw[HRS.out];have:=HLN.out.2.2;omega⟩
        case measure=>simp[intOf];omega
    ·as_aux_lemma =>
      go_simp
      obtain⟨w6,hww6⟩:∃w6,wd.alloc (.cells gapV 9)=w6:=⟨_,rfl⟩
      have bw6:Below wd.heap.size wd w6:=by rw[←hww6];exact(Below.refl _ _).alloc (Nat.le_refl _) _
      have GBw6:GapB w6 wd.heap.size:=by unfold GapB;rw[←hww6];exact heap_alloc_new _ _
      have BIw6:=Lib.hid (BIwd.out.below bw6)
      unfold gapV at hww6
      try rw[hww6]
      refine hK.out _ _ trivial (fun hHeld=>?_)
      clear hK K bw6 hHeld
      refine nrm ?_
      generalize wd.heap.size=G at *
      clear hww6
      refine wpAnyH_mono (S':=fun W=>W.cell? ⟨G,0,none⟩=some (S (Lfc.gaps4.getD 0 []))) (fun W h=>trivial) _ _ _ _ ?_
      have hHeld:=GBw6.cell hgi
      refine tk 10 ?_
      refine tk 11 ?_
      refine wpAnyH_ready (rs:=[6]) (by kernel_rfl) (by simp) (AllReadyH.cons rfl (fun K hK=>?_) AllReadyH.nil)
      go_simp
      go_at_call 24
      refine(CSP.out w6 BIw6.out.bel).mono ?_
      rintro e w7⟨rfl,bw7⟩
      have BIw7:=Lib.hid (BIw6.out.below bw7)
      have GBw7:=GBw6.below bw7
      go_simp
      refine hK.out _ _ (GBw7.cell hgi) (fun hHeld=>?_)
      clear hK K
      refine nrm ?_
      clear bw7
      refine wpAnyH_ready (rs:=[7]) (by kernel_rfl) (by simp) (AllReadyH.cons rfl (fun K hK=>?_) AllReadyH.nil)
      refine step_append_strP _ (by rfl) _ _ 68 9 (by rfl) w4.heap.size 5 ib Tryz.underlying68 Tryz.underlying9 hbi hbz0 hbz1 hbz2 _ _ _ (by rfl) BIw7.out.own ⟨(spt).toArray⟩ (by rfl) (by rw[bsize];unfold maxLen;have:=HLN.out.1;omega) (by rw[bsize];have:=HLN.out.1;omega) BIw7.out.bel.size ?_
      intro vw8 w8 hownw8 hgw8
      obtain⟨Aw8,cw8,rfl,biw8⟩:=BIw7.out.push hownw8 hgw8
      have BIw8:=Lib.hid biw8
      clear biw8
      obtain⟨acc2,hac2⟩:∃x,Lfc.rend ps++spt=x:=⟨_,rfl⟩
      have HAC:=Lib.hid hac2
      rw[hac2] at BIw8 ⊢
      clear hac2
      have GBw8:=GBw7.grown BIw7.out hgw8
      refine hK.out _ _ (GBw8.cell hgi) (fun hHeld=>?_)
      clear hK K
      refine nrm ?_
      clear hownw8 hgw8
      refine wpAnyH_ready (rs:=[12]) (by kernel_rfl) (by simp) (AllReadyH.cons rfl (fun K hK=>?_) AllReadyH.nil)
      refine step_append_strP _ (by rfl) _ _ 68 9 (by rfl) w4.heap.size 5 ib Tryz.underlying68 Tryz.underlying9 hbi hbz0 hbz1 hbz2 _ _ _ (by rfl) BIw8.out.own ⟨(Lfc.gaps4.getD 0 []).toArray⟩ (by rfl) (by rw[bsize];unfold maxLen;have:=HLN.out.2.1;rw[HAC.out] at this;omega) (by rw[bsize];have:=HLN.out.2.1;rw[HAC.out] at this;omega) BIw8.out.bel.size ?_
      intro vw9 w9 hownw9 hgw9
      obtain⟨Aw9,cw9,rfl,biw9⟩:=BIw8.out.push hownw9 hgw9
      have BIw9:=Lib.hid biw9
      clear biw9
      have GBw9:=GBw8.grown BIw8.out hgw9
      refine hK.out _ _ (GBw9.cell hgi) (fun hHeld=>?_)
      clear hK K
      refine nrm ?_
      clear hownw9 hgw9
      refine tk 13 ?_
      refine wpAnyH_done (by kernel_rfl) ?_ _
      go_wp2_with fail
      go_roundw
      case rel=>exact⟨k+1,ps++[(T[k],Lfc.gaps4.getD 0 [])],Aw9,cw9,by omega,by go_num,by rw[List.map_append,hps,HTK.out];rfl,HGA.out,by rw[HRS.out,HAC.out];simp,Lib.hid (by rw[HRS.out,HAC.out];exact BIw9.out),by rw[HRS.out];have:=HLN.out.2.2;omega⟩
      case measure=>simp[intOf];omega
  ·obtain rfl:k=T.length:=by omega
   rw[List.take_length] at hps
   obtain⟨hr1,hr2,cI,k2,e6,e7⟩:=LAW.out ps hps HG.out
   have hconv:=own_string Tryz.underlying68 Tryz.underlying5 Tryz.underlying9 HI.out.own
   have P2:=Lib.hid (fun W=>parse_any (Lfc.rend ps) W (by omega) (dirsOK_all hr2))
   rw[e6] at P2
   have hxs':a=xs.map Prod.fst:=hxs
   have HFIT:Hid (∀y∈xs,y.1.fit 100000):=Lib.hid (fun y hy=>hfa.2 _ (by rw[hxs'];exact List.mem_map.2 ⟨y,hy,rfl⟩))
   have hla:xs.length≤20000:=by
    have h1:a.length≤20000:=hfa.1
    rw[hxs'] at h1
    simpa using h1
   have hqa:q.length≤20000:=by simpa using hoa
   have HSTR:=Lib.hid e7
   have HPS:=Lib.hid hps
   have hlt2:¬(T.length<T.length):=by omega
   generalize Lfc.rend ps=R at *
   clear hr2 e6 e7 hfa hoa hps
   go_upto_region 15 with(go_at_call 9;refine(P2.out _).mono ?_;rintro e w6⟨⟨ys,A6,c6,B6,d6,hys,rfl,hv6,hcap6,ho6⟩,b6⟩)
   have hys':cI=ys.map Prod.fst:=hys
   have hly:ys.length=xs.length:=by
    have:=congrArg List.length HSTR.out
    rw[hxs',hys'] at this
    simpa using this.symm
   have hst:xs.map (fun y=>y.1.strip)=ys.map (fun y=>y.1.strip):=by
    have h:=HSTR.out
    rw[hxs',hys',List.map_map,List.map_map] at h
    exact h
   have hb46:=HI.out.bel.trans (b6.mono HI.out.bel.size)
   have CS:=Lib.hid (sItems_any xs ys xs.length rfl hly hst HFIT.out A A6 ca c6 w6 (by omega) (HXV4.out.below hb46) hv6)
   have CO:=Lib.hid (fun W (h:Below w6.heap.size w6 W)=>sOps_any q q.length rfl B B6 d d6 W (by omega) ((HXO4.out.below hb46).below h) (ho6.below h))
   have BB:=Lib.hid (B4.out.trans (hb46.mono B4.out.size))
   rw[hly]
   clear hly hst hys' hxs' hys hxs hv6 ho6 hcap6 hb46 b6 P2 hconv
   go_wp2_with (first
    |(go_at_call 11;with_reducible refine CS.out.mono ?_;rintro e w8⟨rfl,b8⟩)
    |(go_at_call 20;with_reducible refine(CO.out _ b8).mono ?_;rintro e w9⟨rfl,b9⟩)
    |(go_at_call 12;refine(awake4_any _).mono ?_;rintro e w10⟨rfl,b10⟩))
   go_ret
   exact⟨rfl,BB.out.trans ((b8.trans ((b9.trans (b10.mono b9.size)).mono b8.size)).mono BB.out.size)⟩
end Go.Proofs.YthajalgkjonaaaaGreatDoor
namespace Go.Proofs.YthajalgkjonaaaaGreatDoor
open Go.RowKit
theorem laid_noneB{W:World}(hL:laidMetH Tryz.prog Rows.parseBlanksRow.laid W):True:=trivial
theorem parseBlanks_walkT(v0 v1:Value)(z0 z1:List Int)(w:World)(i0:IntsAt w v0 z0)(i1:IntsAt w v1 z1)(h:True) :
  Calls Tryz.prog 7 #[v0,v1] w fun e w'=>e=.returned (.bool true)∧Below w.heap.size w w':=parseBlanks_walk v0 v1 z0 z1 w i0 i1
end Go.Proofs.YthajalgkjonaaaaGreatDoor
namespace Go.Proofs.YthajalgkjonaaaaGreatDoor.parseBlanks
open Go.ChangeShapes Go.WideShapes Go.ChangeAt Go.RowKit
theorem readable:∀t∈Tryz.f7.params.toList,Tryz.prog.readableRec t=true∧t<Tryz.prog.types.size:=by
 have h:(Tryz.f7.params.toList.all fun t=>Tryz.prog.readableRec t && decide (t<Tryz.prog.types.size))=true:=by kernel_rfl
 intro t ht
 have:=List.all_eq_true.1 h t ht
 simp only[Bool.and_eq_true,decide_eq_true_eq] at this
 exact this
set_option maxRecDepth 100000 in
theorem contract(H:Type)(enc:TypeId × Value→H)(W:World)(base:Nat)(args:Array Value)(ds gs:List (DataW H))(before:List MemPlace)
  (hval:∀(j:Nat) t v,Tryz.f7.params[j]?=some t→args[j]?=some v→Value.okWide Tryz.prog W .any base t v)
  (hW:DataW.Whole enc Tryz.prog Tryz.f7.params.toList Rows.parseBlanksSpec.vars false W args.toList ds gs before) (hL:laidMetH Tryz.prog Rows.parseBlanksRow.laid W) :
  Calls Tryz.prog 7 args W fun e W'=>∃v,e=.returned v∧Rows.parseBlanksSpec.post enc Tryz.prog Tryz.f7 false true false false W args v W':=by
 have hW':=hW
 obtain⟨p,q,hA0,hV,rfl,hfz,hnd⟩:=hW
 have hA:DataW.TrodAll enc Tryz.prog W 0 (fun _=>true) true Tryz.f7.params.toList args.toList ds p:=hA0
 rw[Tryz.params7] at hA hval
 obtain⟨v0,v1,d0,d1,p0,p1,rfl,rfl,rfl,h0,h1⟩:=trodAll_two hA
 obtain⟨rfl,rfl⟩:=trodVars_none hV
 obtain⟨z0,i0⟩:=intsAt_of (hval 0 22 v0 rfl rfl) h0
 obtain⟨z1,i1⟩:=intsAt_of (hval 1 22 v1 rfl rfl) h1
 clear hA0
 refine(parseBlanks_walkT v0 v1 z0 z1 W i0 i1 (laid_noneB hL)).mono fun e W' ⟨he,hb⟩=>?_
 subst he
 exact⟨_,rfl,law_post rfl ⟨rfl,rfl,rfl⟩ rfl readable hW' hb⟩
theorem laid_met(os:Os):laidMet Tryz.prog Rows.parseBlanksRow.laid ((World.doorLaid Tryz.prog 400 os).forCall (fun _ _=>0) ⟨#[],#[.slice none 0 0,.slice none 0 0],[]⟩).memory :=
 laidMet_of_run' 8 (by kernel_rfl) (by kernel_rfl)
theorem reads(os:Os){H:Type}(enc:TypeId × Value→H):∃places,DataW.whole enc Tryz.prog ((World.doorLaid Tryz.prog 400 os).forCall (fun _ _=>0) ⟨#[],#[.slice none 0 0,.slice none 0 0],[]⟩).memory Tryz.f7.params.toList Rows.parseBlanksSpec.vars false (#[.slice none 0 0,.slice none 0 0]:Array Value).toList 8=some ([.nil,.nil],[],places) :=
 ⟨[],by kernel_rfl⟩
set_option maxRecDepth 100000 in
theorem lifted(os:Os)(started:os.Started)(H:Type)(enc:TypeId × Value→H)(F:Stop.Interp) :
  ReturnsInHanded {} Tryz.checked os 7 .any ((OpenSpec.ofChange Rows.parseBlanksSpec).preRow enc Tryz.prog Tryz.f7 Rows.parseBlanksRow.domain false Rows.parseBlanksRow.laid) (((OpenSpec.ofChange Rows.parseBlanksSpec).at F).post enc Tryz.prog Tryz.f7 false true false false):=by
 obtain⟨places,hx⟩:=reads os enc
 refine returnsInHanded_of_row (C:=Tryz.checked) (s:=OpenSpec.ofChange Rows.parseBlanksSpec) own started (by kernel_rfl) Tryz.func7
  (witness_row_atRef (enc:=enc) (C:=Tryz.checked) false (World.doorLaid Tryz.prog 400 os) #[.slice none 0 0,.slice none 0 0] rfl (by kernel_rfl) (by kernel_rfl) (by kernel_rfl)
   (OpenSpec.preRow_of_cond 8 hx (by kernel_rfl) (fun k hk=>by cases hk) (by kernel_rfl) (laid_met os))) ?_
 intro W base args ds gs before hval hW _ _ _ hL _ _
 exact contract H enc W base args ds gs before hval hW hL
theorem said:Rows.ParseBlanksSaid :=
 OpenClaim.holds_of_cond 7 Tryz.f7 rfl rfl rfl rfl rfl rfl rfl ⟨rfl,rfl,rfl,rfl,rfl⟩ rfl rfl rfl rfl rfl (by kernel_rfl) Tryz.func7 (by kernel_rfl)
  (of_decide_eq_true (by kernel_rfl)) (by unfold Func.isWrapper;first | (rw[if_pos (by decide +kernel)];kernel_rfl) | (rw[if_neg (by decide +kernel)];exact⟨rfl,rfl⟩))
  (fun os started H enc _ F=>by rw[OpenClaim.pre_eq_preRow];exact lifted os started H enc F)
theorem plain(f:FuncId)(fn:Func)(hf:Tryz.pinned.checked.prog.funcNamed Rows.parseBlanksRow.func=some f)(hfn:Tryz.pinned.checked.prog.funcs[f]?=some fn) :
  true=Tryz.pinned.checked.prog.looks []∧∀(j:Nat) t,fn.params[j]?=some t→Tryz.pinned.checked.prog.wantsStandIn t=false:=by
 obtain rfl:f=7:=Option.some.inj ((show Tryz.prog.funcNamed Rows.parseBlanksRow.func=some 7 by kernel_rfl).symm.trans hf) |>.symm
 obtain rfl:fn=Tryz.f7:=(Option.some.inj (Tryz.func7.symm.trans hfn)).symm
 refine⟨by kernel_rfl,fun j t ht=>?_⟩
 have hall:(Tryz.f7.params.toList.all fun u=>!Tryz.prog.wantsStandIn u)=true:=by kernel_rfl
 have hm:t∈Tryz.f7.params.toList:=by simpa using Array.mem_of_getElem? ht
 exact(show Tryz.prog.wantsStandIn t=false by simpa using List.all_eq_true.1 hall t hm)
theorem card:Rows.ParseBlanksCardSaid :=
 Claim7.holds_tied_plain_at .later [] _ _ _ _ said (fun _ h=>by cases h) (by kernel_rfl) (fun _ h=>by cases h) parseBlanks_row_tie rfl ⟨rfl,rfl⟩ (by kernel_rfl) rfl plain (by kernel_rfl)
end Go.Proofs.YthajalgkjonaaaaGreatDoor.parseBlanks
