/- Parts of the proof that no input makes the law false: SmLight, OcLight, OcImp, OcTrP, OiP, OiB. -/
import Derived.Test.YtadjpadieljjlaaGreatIvAU
set_option linter.unusedVariables false
set_option linter.unusedSimpArgs false
set_option maxRecDepth 100000
set_option maxHeartbeats 32000000
namespace Go.Proofs.YtadjpadieljjlaaGreat
open Go.RowKit
theorem mLight_any (most:Int) (ts:List Lfc.Raw) (A:Option Addr) (c:Nat) (w:World) (hn:ts.length≤100) (hs:∀t∈ts,t.size≤100000) (h:TreesAt w A ts) :
  Calls Tryz.prog 19 #[.int .i64 most,.slice A ts.length c] w fun e w'=>(∃b,e=.returned (.bool b))∧Below w.heap.size w w':=by
 have HA:=zH h
 have HS:=zH hs
 clear h hs
 go_enter Tryz.func19,Tryz.ntmps19
 go_wp2_with fail
 go_loopw [5,6] (fun n i wr=>∃k z:Nat,k≤ts.length∧i=.int .i64 k∧n=.int .i64 (z:Int)∧z≤k*100000∧Below w.heap.size w wr) (fun _ i _=>ts.length-(intOf i).toNat)
 case atStart=>exact ⟨0,0,by omega,rfl,rfl,by omega,zB _ _⟩
 obtain ⟨k,z,hk,rfl,rfl,hz,hbw⟩:=hrel
 by_cases hlt:k<ts.length
 ·obtain ⟨b,o,k1,n1,p1,us,B,c1,rfl,hb,ht,d0,d1,d2,d3,hcu,hB,hT⟩:=(HA.out.below hbw).at_ hlt
  have hst:=HS.out ts[k] (List.getElem_mem _)
  have HT:=zH hT
  obtain ⟨y,hy⟩:∃y,ts[k].size=y:=⟨_,rfl⟩
  obtain ⟨x,hx⟩:∃x,ts[k].depth=x:=⟨_,rfl⟩
  have HY:=zH hy
  have HX:=zH hx
  rw [hy] at hst
  have HBW:=zH hbw
  clear hB ht hT hy hx
  have hxy:x≤y:=by have:=Lfc.Raw.depth_le_size _ ts[k] (zN _);rw [HX.out,HY.out] at this;exact this
  go_wp2_with fail
  refine (sDepth_any _ ts[k] _ _ (zN _) (by rw [HY.out];omega) HT.out).mono ?_
  rintro e w1 ⟨rfl,hb1⟩
  rw [HX.out]
  by_cases hx:40<x
  ·have hx1:decide ((x:Int)>40)=true:=by rw [decide_eq_true_eq];omega
   clear hx
   go_wp2_with fail
   go_ret
   exact ⟨⟨false,rfl⟩,hbw.trans (hb1.mono hbw.size)⟩
  have hx1:decide ((x:Int)>40)=false:=by rw [decide_eq_false_iff_not];omega
  have e0:=(hb1.cell (p:=⟨b,o+k*4,none⟩) hb).trans d0
  have e1:=(hb1.cell (p:=⟨b,o+k*4+1,none⟩) hb).trans d1
  have e2:=(hb1.cell (p:=⟨b,o+k*4+2,none⟩) hb).trans d2
  have e3:=(hb1.cell (p:=⟨b,o+k*4+3,none⟩) hb).trans d3
  have HB2:=zH (hbw.trans (hb1.mono hbw.size))
  have hT1:=zH (HT.out.below hb1)
  clear hx d0 d1 d2 d3 hbw hb1
  go_wp2_with fail
  refine (sSize_any _ ts[k] _ _ (zN _) (by rw [HY.out];omega) hT1.out).mono ?_
  rintro e w2 ⟨rfl,hb2⟩
  rw [HY.out]
  have hzy:IntKind.i64.wrap ((z:Int)+(y:Int))=((z+y:Nat):Int):=by rw [IntWalk.i64_in _ (by omega)];omega
  clear e0 e1 e2 e3
  go_wp2_with fail
  go_roundw
  case rel=>exact ⟨k+1,z+y,by omega,by go_num,rfl,by omega,HB2.out.trans (hb2.mono HB2.out.size)⟩
  case measure=>simp [intOf];omega
 go_wp2_with fail
 go_ret
 exact ⟨⟨_,rfl⟩,hbw⟩
end Go.Proofs.YtadjpadieljjlaaGreat
namespace Go.Proofs.YtadjpadieljjlaaGreat
open Go.RowKit Go.Maps
attribute [local go_sem ↓] Go.wp_at_zero Go.wp_at_succ
theorem treesAt_two {w:World} {g:Nat} {k p k' p':Int} {n n':List UInt8} {ts ts':List Lfc.Raw} {A A':Option Addr} {c c':Nat} (h:w.heap[g]?=some (.cells #[.int .i64 k,S n,.int .i64 p,.slice A ts.length c,.int .i64 k',S n',.int .i64 p',.slice A' ts'.length c'] 51 (0,0))) (ht:TreeV w (.node k n p ts) (.agg #[.int .i64 k,S n,.int .i64 p,.slice A ts.length c])) (hu:TreeV w (.node k' n' p' ts') (.agg #[.int .i64 k',S n',.int .i64 p',.slice A' ts'.length c'])):TreesAt w (some ⟨g,0,none⟩) [.node k n p ts,.node k' n' p' ts']:=fun _=>by
 obtain ⟨v0,v1,v2,v3,e,htc⟩:=ht
 cases e
 obtain ⟨v0,v1,v2,v3,e,huc⟩:=hu
 cases e
 refine ⟨g,0,rfl,zL h,?_⟩
 rw [TreesO,TreesO,TreesO]
 exact ⟨⟨_,_,_,_,zC h 0,zC h 1,zC h 2,zC h 3,htc⟩,⟨_,_,_,_,zC h 4,zC h 5,zC h 6,zC h 7,huc⟩,trivial⟩
theorem tree_elemB {wr:World} {q:Nat→Prop} {A:Option Addr} {ts:List Lfc.Raw} {i:Nat} (hi:i<ts.length) (h:TreesAtP q wr A ts) :
  ∃b o kk nn pp ls B c,A=some ⟨b,o,none⟩∧(∀W:World,Below wr.heap.size wr W→W.cell? ⟨b,o+i*4,none⟩=some (.int .i64 kk)∧W.cell? ⟨b,o+i*4+1,none⟩=some (S nn)∧W.cell? ⟨b,o+i*4+2,none⟩=some (.int .i64 pp)∧W.cell? ⟨b,o+i*4+3,none⟩=some (.slice B (List.length ls) c))∧Lfc.Raw.node kk nn pp ls∈ts∧TreeVP q wr (.node kk nn pp ls) (.agg #[.int .i64 kk,S nn,.int .i64 pp,.slice B (List.length ls) c]):=by
 obtain ⟨b,o,hA,hlt,hqb,hts⟩:=h (by intro h0;rw [h0] at hi;simp at hi)
 obtain ⟨v0,v1,v2,v3,h0,h1,h2,h3,hP⟩:=treesP_at ts o i hi hts
 cases ht:ts[i] with
 | node k n p us =>
  have hP':=hP
  rw [ht,TreeP] at hP
  obtain ⟨rfl,rfl,_,rfl,B,c,rfl,_⟩:=hP
  refine ⟨b,o,k,n,p,us,B,c,hA,fun W hW=>?_,ht ▸ List.getElem_mem hi,⟨_,_,_,_,rfl,by rw [←ht];exact hP'⟩⟩
  have hc:=fun j=>hW.cell (p:=⟨b,j,none⟩) hlt
  exact ⟨(hc _).trans h0,(hc _).trans h1,(hc _).trans h2,(hc _).trans h3⟩
theorem oLight_any (q:Nat→Prop) (fs:List Lfc.Fact) (F:Option Addr) (o p:Lfc.Ord) (f0:Nat) (rel k1 a1 k2 a2:Int) (A1 A2:Option Addr) (l1 c1 l2 c2:Nat) (ts us:List Lfc.Raw) (L R:Option Addr) (cl cr:Nat) (ks:List Int) (A0:Option Addr) (c0:Nat) (w:World)
  (h:QuP q w fs F o p (.agg #[.int .i64 k1,.int .i64 a1,.slice A1 l1 c1]) (.agg #[.int .i64 k2,.int .i64 a2,.slice A2 l2 c2]) ts us L R cl cr ks A0) :
  Calls Tryz.prog 9 #[.agg #[.slice F fs.length f0,.int .i64 rel,.int .i64 k1,.int .i64 a1,.slice A1 l1 c1,.int .i64 k2,.int .i64 a2,.slice A2 l2 c2,.slice L ts.length cl,.slice R us.length cr,.slice A0 ks.length c0]] w fun e w'=>(∃b,e=.returned (.bool b))∧Below w.heap.size w w':=by
 obtain ⟨w1,hw1⟩:∃w1,w.alloc (.cells #[.slice F fs.length f0,.int .i64 rel,.int .i64 k1,.int .i64 a1,.slice A1 l1 c1,.int .i64 k2,.int .i64 a2,.slice A2 l2 c2,.slice L ts.length cl,.slice R us.length cr,.slice A0 ks.length c0] 29)=w1:=⟨_,rfl⟩
 have b1:=zG hw1
 have q1:=zQ hw1
 have l1':=zL q1
 have hTT:=h.tt.keep (q':=fun _=>True) (fun b _ hlt=>b1.block b hlt) b1.size (fun _ _ _=>trivial)
 have hUU:=h.uu.keep (q':=fun _=>True) (fun b _ hlt=>b1.block b hlt) b1.size (fun _ _ _=>trivial)
 have TT:=zH hTT
 have UU:=zH hUU
 have ZT:=zH h.zt
 have ZU:=zH h.zu
 have hn3:=h.n
 have hne:=h.eq
 have B1:=zH b1
 have Q1:=zH q1
 obtain ⟨n,hn⟩:∃n,ts.length=n:=⟨_,rfl⟩
 obtain ⟨n',hn'⟩:∃n,us.length=n:=⟨_,rfl⟩
 obtain ⟨nf,hnf⟩:∃n,fs.length=n:=⟨_,rfl⟩
 obtain ⟨nk,hnk⟩:∃n,ks.length=n:=⟨_,rfl⟩
 rw [hn'] at hne
 rw [hn] at hn3 hne
 obtain rfl:n'=n:=hne
 rw [hn,hn',hnf,hnk] at Q1 hw1 ⊢
 have HN1:=zH (And.intro hn hn')
 clear h b1 q1 hTT hUU hn hn' hnf hnk
 go_enter Tryz.func9,Tryz.ntmps9
 go_wp2_with fail
 clear hw1
 go_loopw [3] (fun i wr=>∃j:Nat,j≤n'∧i=.int .i64 (j:Int)∧Hid (Below w1.heap.size w1 wr)) (fun i _=>n'-(intOf i).toNat)
 case atStart=>exact ⟨0,by omega,rfl,zH (zB _ _)⟩
 obtain ⟨j,hj,rfl,HI⟩:=hrel
 have q1:=(HI.out.block _ l1').trans Q1.out
 have c8:=(zC q1 8:wr.cell? ⟨w.heap.size,8,none⟩=some (.slice L n' cl))
 by_cases hlt:j<n'
 ·have hlt1:(j:Int)<(n':Int):=by omega
  have hj0:(0:Int)≤(j:Int):=by omega
  have hd1:decide ((j:Int)<(n':Int))=true:=by rw [decide_eq_true_eq];exact hlt1
  have QC:Hid (∀W:World,Below wr.heap.size wr W→W.cell? ⟨w.heap.size,8,none⟩=some (.slice L n' cl)∧W.cell? ⟨w.heap.size,9,none⟩=some (.slice R n' cr)):=zH (fun W hW=>by
   have e:=(hW.block _ (zL q1)).trans q1
   exact ⟨zC e 8,zC e 9⟩)
  obtain ⟨bL,oL,kl,nl,pl,ls,Bl,cL,rfl,hLc,hLm,hLv⟩:=tree_elemB (show j<ts.length by rw [HN1.out.1];exact hlt) (TT.out.keep (q':=fun _=>True) (fun b _ hlt=>HI.out.block b hlt) HI.out.size (fun _ _ _=>trivial))
  obtain ⟨bR,oR,kr,nr,pr,rs,Br,cR,rfl,hRc,hRm,hRv⟩:=tree_elemB (show j<us.length by rw [HN1.out.2];exact hlt) (UU.out.keep (q':=fun _=>True) (fun b _ hlt=>HI.out.block b hlt) HI.out.size (fun _ _ _=>trivial))
  have LA:=zH hLc
  have LV:=zH (And.intro (ZT.out _ hLm) hLv)
  have RA:=zH hRc
  have RV:=zH (And.intro (ZU.out _ hRm).1 hRv)
  clear hLc hLm hLv hRc hRm hRv q1
  go_upto_region 4 with fail
  clear c8
  go_cut [23] (fun s wx=>∃bb:Bool,s=.bool bb∧Hid (Below w1.heap.size w1 wx))
  case first =>
   have bW1:=HI.out
   refine wp_region_held_drew (S:=fun W=>Below wr.heap.size wr W) (by kernel_rfl) ?_ (fun hHeld=>?_)
   ·exact (zB _ wr).drew
   have bW:Below wr.heap.size wr wr.drew:=(zB _ wr).drew
   obtain ⟨wc0,hwc0⟩:∃wc0,wr.drew=wc0:=⟨_,rfl⟩
   rw [hwc0] at bW hHeld ⊢
   clear hwc0
   refine tk 0 ?_
   refine tk 1 (hy:=Or.inl ⟨by rfl,by intro w hSw;(try dsimp only at hSw);obtain ⟨q8,q9⟩:=QC.out w hSw;go_simp;try with_reducible rfl⟩) ?_
   refine tk 2 ?_
   refine tk 3 ?_
   refine tk 4 (hy:=Or.inl ⟨by rfl,by intro w hSw;(try dsimp only at hSw);obtain ⟨e0,e1,e2,e3⟩:=LA.out w hSw;go_simp;try with_reducible rfl⟩) ?_
   refine tk 5 ?_
   refine tk 6 (hy:=Or.inl ⟨by rfl,by intro w hSw;(try dsimp only at hSw);obtain ⟨q8,q9⟩:=QC.out w hSw;go_simp;try with_reducible rfl⟩) ?_
   refine tk 7 ?_
   refine tk 8 ?_
   refine tk 9 (hy:=Or.inl ⟨by rfl,by intro w hSw;(try dsimp only at hSw);obtain ⟨e0,e1,e2,e3⟩:=RA.out w hSw;go_simp;try with_reducible rfl⟩) ?_
   refine wpAnyH_ready (rs:=[10]) (by kernel_rfl) (by simp) ?_
   refine AllReadyH.cons rfl (fun K hK=>?_) ?_
   ·have b8:=(zB wc0.heap.size wc0).alloc (zN _) (.cells #[.int .i64 kl,S nl,.int .i64 pl,.slice Bl ls.length cL,.int .i64 kr,S nr,.int .i64 pr,.slice Br rs.length cR] 51)
    have B8:=bW.trans (b8.mono bW.size)
    have q8:=zW wc0 (.cells #[.int .i64 kl,S nl,.int .i64 pl,.slice Bl ls.length cL,.int .i64 kr,S nr,.int .i64 pr,.slice Br rs.length cR] 51)
    have CL:=zH (mLight_any 300 [.node kl nl pl ls,.node kr nr pr rs] (some ⟨wc0.heap.size,0,none⟩) 2 _ (by simp) (by intro y hy;have h1:=LV.out.1;have h2:=RV.out.1;simp at hy;rcases hy with rfl | rfl <;> omega) (treesAt_two q8 (LV.out.2.toV.below B8) (RV.out.2.toV.below B8)))
    have BX:=zH (bW1.trans (B8.mono bW1.size))
    go_simp
    refine hK.out _ _ (B8) (fun hHeld=>nrm ?_)
    clear hK K
    obtain ⟨wA,hwA⟩:∃wA,wc0.alloc (.cells #[.int .i64 kl,S nl,.int .i64 pl,.slice Bl ls.length cL,.int .i64 kr,S nr,.int .i64 pr,.slice Br rs.length cR] 51)=wA:=⟨_,rfl⟩
    rw [hwA] at B8 CL BX hHeld ⊢
    clear hwA q8 b8
    refine wpAnyH_ready (rs:=[11]) (by kernel_rfl) (by simp) ?_
    refine AllReadyH.cons rfl (fun K hK=>?_) ?_
    ·go_simp
     go_at_call 19
     refine CL.out.mono ?_
     rintro e wB ⟨⟨bb,rfl⟩,b9⟩
     have HN:Hid (Below w1.heap.size w1 wB):=zH (BX.out.trans (b9.mono BX.out.size))
     have B9:Below wr.heap.size wr wB:=B8.trans (b9.mono B8.size)
     refine hK.out _ _ (B9) (fun hHeld=>nrm ?_)
     clear hK K
     refine tk 12 ?_
     refine wpAnyH_done (by kernel_rfl) ?_ _
     go_wp2_with fail
     go_meet
     exact ⟨_,rfl,HN⟩
    exact AllReadyH.nil
   exact AllReadyH.nil
  obtain ⟨bb,rfl,HB⟩:=hcut
  clear HI QC LA LV RA RV
  cases bb with
  | false =>
   go_wp2_with fail
   go_roundw
   case rel=>exact ⟨j+1,by omega,by go_num,HB⟩
   case measure=>simp [intOf];omega
  | true =>
   go_wp2_with fail
   go_ret
   exact ⟨⟨_,rfl⟩,B1.out.trans (HB.out.mono B1.out.size)⟩
 have hlt1:¬ (j:Int)<(n':Int):=by omega
 have hd1:decide ((j:Int)<(n':Int))=false:=by rw [decide_eq_false_iff_not];exact hlt1
 go_wp2_with fail
 go_ret
 first | exact ⟨⟨_,rfl⟩,B1.out.trans (HI.out.mono B1.out.size)⟩ | exact ⟨.inr rfl,B1.out.trans (HI.out.mono B1.out.size)⟩
end Go.Proofs.YtadjpadieljjlaaGreat
namespace Lfc
theorem firstE_zero:∀l:List Raw,firstE l=0↔∀t∈l,t.twf=0
 | []=>by simp [firstE]
 | t :: r=>by
  rw [firstE]
  by_cases h:t.twf=0
  ·rw [if_pos h,firstE_zero r];simp [h]
  rw [if_neg h];simp [h]
theorem allO_true:∀l:List Raw,allO l=true↔∀t∈l,t.isO=true
 | []=>by simp [allO]
 | t :: r=>by simp [allO,allO_true r]
theorem chkF_all {fs:List Fact} {o p:Ord} {ts us:List Raw}:chkF fs o p ts us=0↔(∀t∈flat fs++ts++us,t.twf=0∧t.isO=true)∧(o.vld ts.length=0∧p.vld us.length=0∧o.shp p=true):=by
 have e1:=firstE_zero (flat fs++ts++us)
 have e2:=allO_true (flat fs++ts++us)
 unfold chkF
 by_cases h1:firstE (flat fs++ts++us)=0
 ·rw [if_neg (by simpa using h1)]
  have a1:=e1.1 h1
  cases h2:allO (flat fs++ts++us) with
  | false =>
   rw [if_pos rfl]
   refine ⟨fun h=>absurd h (by decide),fun h=>?_⟩
   rw [e2.2 (fun t ht=>(h.1 t ht).2)] at h2
   cases h2
  | true =>
   have a2:=e2.1 h2
   rw [if_neg (by decide)]
   have a3:∀t∈flat fs++ts++us,t.twf=0∧t.isO=true:=fun t ht=>⟨a1 t ht,a2 t ht⟩
   by_cases h3:o.vld ts.length=0
   ·rw [if_neg (by simpa using h3)]
    by_cases h4:p.vld us.length=0
    ·rw [if_neg (by simpa using h4)]
     cases h5:o.shp p with
     | false=>rw [if_pos rfl];exact ⟨fun h=>absurd h (by decide),fun h=>by cases h.2.2.2⟩
     | true=>rw [if_neg (by decide)];exact ⟨fun _=>⟨a3,h3,h4,rfl⟩,fun _=>rfl⟩
    rw [if_pos h4];exact ⟨fun h=>absurd h h4,fun h=>absurd h.2.2.1 h4⟩
   rw [if_pos h3];exact ⟨fun h=>absurd h h3,fun h=>absurd h.2.1 h3⟩
 rw [if_pos h1]
 exact ⟨fun h=>absurd h h1,fun h=>absurd (e1.2 (fun t ht=>(h.1 t ht).1)) h1⟩
theorem flat_mem:∀ {fs:List Fact} {t:Raw},t∈flat fs→∃f∈fs,t=f.l∨t=f.r
 | [],t,h=>by cases h
 | f :: r,t,h=>by
  simp only [flat,List.mem_cons] at h
  rcases h with h | h | h
  ·exact ⟨f,by simp,.inl h⟩
  ·exact ⟨f,by simp,.inr h⟩
  obtain ⟨g,hg,h⟩:=flat_mem h
  exact ⟨g,by simp [hg],h⟩
theorem chn_21 {ks:List Int} {fs:List Fact} {ts us:List Raw} (i j:Nat):chF ks fs ts us 2 i j→chF ks fs ts us 1 i j:=fun h=>chn_less (by decide) h
end Lfc
namespace Lfc
def subN (ks:List Int) (f:Nat→Int) (cr:Nat) (k:Int) (n n':List UInt8) (p p' d:Int):Prop :=
  if k=4 then n=n'
  else if k=5 then
    (if p-d<0 then p=p'
     else if p-d<(cr:Int) then (0≤p'-d∧kindOf ks (p'-d)=2∧f (p-d).toNat=p'-d)
     else p'=p-(cr:Int))
  else if k=6 then p=p'
  else True
mutual
def sub (ks:List Int) (f:Nat→Int) (cr:Nat):Raw→Raw→Int→Prop
  | .node k n p xs,.node k' n' p' ys,d=>k=k'∧subN ks f cr k n n' p p' d∧subs ks f cr xs ys (if k=3 then d+1 else d)
def subs (ks:List Int) (f:Nat→Int) (cr:Nat):List Raw→List Raw→Int→Prop
  | [],[],_=>True
  | a :: r,b :: q,d=>sub ks f cr a b d∧subs ks f cr r q d
  | [],_ :: _,_=>False
  | _ :: _,[],_=>False
end
def agr (f:Nat→Int) (cr:Nat) (tv:List Int):Prop:=tv.length=cr∧∀i,i<cr→tv.getD i 0<0∨tv.getD i 0=f i
theorem getD_set {tv:List Int} {i j:Nat} {x:Int} (h:i<tv.length):(tv.set i x).getD j 0=if i=j then x else tv.getD j 0:=by
  simp only [List.getD_eq_getElem?_getD,List.getElem?_set]
  by_cases e:i=j
  · subst e;simp [h]
  simp [e]
theorem step_sub {ks:List Int} {cr:Nat} {k p p' d:Int} {n n':List UInt8} {tv tv':List Int} (hl:tv.length=cr) (h:stStep ks cr k n n' p p' d tv=some tv'):(tv'.length=cr∧∀i,i<cr→0≤tv.getD i 0→tv'.getD i 0=tv.getD i 0)∧(∀f:Nat→Int,(∀i,i<cr→0≤tv'.getD i 0→f i=tv'.getD i 0)→subN ks f cr k n n' p p' d):=by
  unfold stStep at h
  unfold subN
  by_cases h4:k=4
  · simp only [h4,if_true] at h ⊢
    split at h
    · cases h;exact ⟨⟨hl,fun _ _ _=>rfl⟩,fun _ _=>by assumption⟩
    cases h
  simp only [h4,if_false] at h ⊢
  by_cases h5:k=5
  · simp only [h5,if_true] at h ⊢
    by_cases a1:p-d<0
    · simp only [a1,if_true] at h ⊢
      split at h
      · cases h;exact ⟨⟨hl,fun _ _ _=>rfl⟩,fun _ _=>by assumption⟩
      cases h
    simp only [a1,if_false] at h ⊢
    by_cases a2:p-d<(cr:Int)
    · simp only [a2,if_true] at h ⊢
      split at h
      · cases h
      rename_i hn
      cases h
      have hi:(p-d).toNat<tv.length:=by omega
      have b1:0≤p'-d:=Classical.byContradiction fun e=>hn (.inl (by omega))
      have b2:kindOf ks (p'-d)=2:=Classical.byContradiction fun e=>hn (.inr (.inl e))
      refine ⟨⟨by rw [List.length_set];exact hl,fun i hic h0=>?_⟩,fun f hf=>⟨b1,b2,?_⟩⟩
      · rw [getD_set hi]
        split
        · rename_i e
          subst e
          exact Classical.byContradiction fun e=>hn (.inr (.inr ⟨h0,fun e2=>e e2.symm⟩))
        rfl
      have:=hf (p-d).toNat (by omega) (by rw [getD_set hi,if_pos rfl];exact b1)
      rw [getD_set hi,if_pos rfl] at this
      exact this
    simp only [a2,if_false] at h ⊢
    split at h
    · cases h;exact ⟨⟨hl,fun _ _ _=>rfl⟩,fun _ _=>by assumption⟩
    cases h
  simp only [h5,if_false] at h ⊢
  by_cases h6:k=6
  · simp only [h6,if_true] at h ⊢
    split at h
    · cases h;exact ⟨⟨hl,fun _ _ _=>rfl⟩,fun _ _=>by assumption⟩
    cases h
  simp only [h6,if_false] at h ⊢
  cases h
  exact ⟨⟨hl,fun _ _ _=>rfl⟩,fun _ _=>trivial⟩
mutual
theorem st_sub {ks:List Int} {cr:Nat}:∀ (s t:Raw) (d:Int) (tv tv':List Int),tv.length=cr→Raw.st ks cr s t d tv=some tv'→(tv'.length=cr∧∀i,i<cr→0≤tv.getD i 0→tv'.getD i 0=tv.getD i 0)∧(∀f:Nat→Int,(∀i,i<cr→0≤tv'.getD i 0→f i=tv'.getD i 0)→sub ks f cr s t d)
  | .node k n p xs,.node k' n' p' ys,d,tv,tv',hl,h=>by
    rw [Raw.st] at h
    by_cases hc:k≠k'∨xs.length≠ys.length
    · rw [if_pos hc] at h;cases h
    rw [if_neg hc] at h
    have hk:k=k':=Classical.byContradiction fun e=>hc (.inl e)
    have hxy:xs.length=ys.length:=Classical.byContradiction fun e=>hc (.inr e)
    cases hs:stStep ks cr k n n' p p' d tv with
    | none=>rw [hs] at h;cases h
    | some tv1 =>
      rw [hs] at h
      obtain ⟨⟨l1,k1⟩,s1⟩:=step_sub hl hs
      obtain ⟨⟨l2,k2⟩,s2⟩:=sts_sub xs ys _ tv1 tv' l1 hxy h
      refine ⟨⟨l2,fun i hi h0=>?_⟩,fun f hf=>?_⟩
      · have e:=k1 i hi h0
        rw [←e]
        exact k2 i hi (by rw [e];exact h0)
      rw [sub]
      refine ⟨hk,s1 f (fun i hi h0=>?_),s2 f hf⟩
      have e:=k2 i hi h0
      rw [←e]
      exact hf i hi (by rw [e];exact h0)
theorem sts_sub {ks:List Int} {cr:Nat}:∀ (xs ys:List Raw) (d:Int) (tv tv':List Int),tv.length=cr→xs.length=ys.length→Raw.sts ks cr xs ys d tv=some tv'→(tv'.length=cr∧∀i,i<cr→0≤tv.getD i 0→tv'.getD i 0=tv.getD i 0)∧(∀f:Nat→Int,(∀i,i<cr→0≤tv'.getD i 0→f i=tv'.getD i 0)→subs ks f cr xs ys d)
  | [],[],d,tv,tv',hl,_,h=>by
    have h:some tv=some tv':=by simpa [Raw.sts] using h
    cases h
    exact ⟨⟨hl,fun _ _ _=>rfl⟩,fun _ _=>by rw [subs];trivial⟩
  | [],_ :: _,_,_,_,_,hxy,_=>by simp at hxy
  | _ :: _,[],_,_,_,_,hxy,_=>by simp at hxy
  | a :: r,b :: q,d,tv,tv',hl,hxy,h=>by
    rw [Raw.sts] at h
    cases hs:Raw.st ks cr a b d tv with
    | none=>rw [hs] at h;cases h
    | some tv1 =>
      rw [hs] at h
      obtain ⟨⟨l1,k1⟩,s1⟩:=st_sub a b d tv tv1 hl hs
      obtain ⟨⟨l2,k2⟩,s2⟩:=sts_sub r q d tv1 tv' l1 (by simpa using hxy) h
      refine ⟨⟨l2,fun i hi h0=>?_⟩,fun f hf=>?_⟩
      · have e:=k1 i hi h0
        rw [←e]
        exact k2 i hi (by rw [e];exact h0)
      rw [subs]
      refine ⟨s1 f (fun i hi h0=>?_),s2 f hf⟩
      have e:=k2 i hi h0
      rw [←e]
      exact hf i hi (by rw [e];exact h0)
end
theorem sub_step {ks:List Int} {f:Nat→Int} {cr:Nat} {k p p' d:Int} {n n':List UInt8} {tv:List Int} (ha:agr f cr tv) (h:subN ks f cr k n n' p p' d):∃tv',stStep ks cr k n n' p p' d tv=some tv'∧agr f cr tv':=by
  unfold subN at h
  unfold stStep
  by_cases h4:k=4
  · simp only [h4,if_true] at h ⊢
    exact ⟨tv,by rw [if_pos h],ha⟩
  simp only [h4,if_false] at h ⊢
  by_cases h5:k=5
  · simp only [h5,if_true] at h ⊢
    by_cases a1:p-d<0
    · simp only [a1,if_true] at h ⊢
      exact ⟨tv,by rw [if_pos h],ha⟩
    simp only [a1,if_false] at h ⊢
    by_cases a2:p-d<(cr:Int)
    · simp only [a2,if_true] at h ⊢
      have hi:(p-d).toNat<tv.length:=by have:=ha.1;omega
      have hi':(p-d).toNat<cr:=by omega
      refine ⟨_,if_neg ?_,by rw [List.length_set];exact ha.1,fun i hic=>?_⟩
      · rintro (e | e | ⟨e,e2⟩)
        · omega
        · exact e h.2.1
        rcases ha.2 _ hi' with e3 | e3
        · omega
        exact e2 (e3.trans h.2.2)
      rw [getD_set hi]
      split
      · rename_i e
        subst e
        exact .inr h.2.2.symm
      exact ha.2 i hic
    simp only [a2,if_false] at h ⊢
    exact ⟨tv,by rw [if_pos h],ha⟩
  simp only [h5,if_false] at h ⊢
  by_cases h6:k=6
  · simp only [h6,if_true] at h ⊢
    exact ⟨tv,by rw [if_pos h],ha⟩
  simp only [h6,if_false] at h ⊢
  exact ⟨tv,rfl,ha⟩
theorem subs_len {ks:List Int} {f:Nat→Int} {cr:Nat}:∀ (xs ys:List Raw) (d:Int),subs ks f cr xs ys d→xs.length=ys.length
  | [],[],_,_=>rfl
  | [],_ :: _,_,h=>by rw [subs] at h;exact h.elim
  | _ :: _,[],_,h=>by rw [subs] at h;exact h.elim
  | a :: r,b :: q,d,h=>by rw [subs] at h;simp [subs_len r q d h.2]
mutual
theorem sub_st {ks:List Int} {f:Nat→Int} {cr:Nat}:∀ (s t:Raw) (d:Int) (tv:List Int),agr f cr tv→sub ks f cr s t d→∃tv',Raw.st ks cr s t d tv=some tv'∧agr f cr tv'
  | .node k n p xs,.node k' n' p' ys,d,tv,ha,h=>by
    rw [sub] at h
    obtain ⟨hk,hn,hs⟩:=h
    obtain ⟨tv1,e1,a1⟩:=sub_step ha hn
    obtain ⟨tv2,e2,a2⟩:=subs_st xs ys _ tv1 a1 hs
    refine ⟨tv2,?_,a2⟩
    rw [Raw.st,if_neg (by rintro (e | e);exact e hk;exact e (subs_len xs ys _ hs)),e1]
    exact e2
theorem subs_st {ks:List Int} {f:Nat→Int} {cr:Nat}:∀ (xs ys:List Raw) (d:Int) (tv:List Int),agr f cr tv→subs ks f cr xs ys d→∃tv',Raw.sts ks cr xs ys d tv=some tv'∧agr f cr tv'
  | [],[],_,tv,ha,_=>⟨tv,by simp [Raw.sts],ha⟩
  | [],_ :: _,_,_,_,h=>by rw [subs] at h;exact h.elim
  | _ :: _,[],_,_,_,h=>by rw [subs] at h;exact h.elim
  | a :: r,b :: q,d,tv,ha,h=>by
    rw [subs] at h
    obtain ⟨tv1,e1,a1⟩:=sub_st a b d tv ha h.1
    obtain ⟨tv2,e2,a2⟩:=subs_st r q d tv1 a1 h.2
    exact ⟨tv2,by rw [Raw.sts,e1];exact e2,a2⟩
end
theorem stands_iff {ks:List Int} {cr:Nat} {s t:Raw}:Raw.stands ks cr s t=true↔∃f,sub ks f cr s t 0:=by
  unfold Raw.stands
  constructor
  · intro h
    obtain ⟨tv',e⟩:=Option.isSome_iff_exists.1 h
    exact ⟨fun i=>tv'.getD i 0,(st_sub s t 0 _ tv' (by simp) e).2 _ (fun i _ _=>rfl)⟩
  rintro ⟨f,h⟩
  obtain ⟨tv',e,_⟩:=sub_st s t 0 (List.replicate cr (-1)) ⟨by simp,fun i hi=>.inl (by simp [List.getD_eq_getElem?_getD,hi])⟩ h
  rw [e];rfl
mutual
def occ (ks:List Int) (t:Raw):Raw→Nat→Prop
  | .node k n p xs,cr=>Raw.stands ks cr (.node k n p xs) t=true∨(Raw.pas ks cr (.node k n p xs)=true∧occs ks t xs (if k=3 then cr+1 else cr))
def occs (ks:List Int) (t:Raw):List Raw→Nat→Prop
  | [],_=>False
  | a :: r,cr=>occ ks t a cr∨occs ks t r cr
end
mutual
theorem pth_occ {ks:List Int} {t:Raw}:∀ (s:Raw) (cr:Nat),(Raw.pth ks t s cr).isSome=true↔occ ks t s cr
  | .node k n p xs,cr=>by
    rw [Raw.pth,occ]
    by_cases h1:Raw.stands ks cr (.node k n p xs) t=true
    · simp [h1]
    rw [if_neg h1]
    cases h2:Raw.pas ks cr (.node k n p xs) with
    | false=>simp [h1]
    | true =>
      have:=pths_occ (ks:=ks) (t:=t) xs (if k=3 then cr+1 else cr) 0
      simp only [Bool.true_eq_false,if_false,this]
      simp [h1]
theorem pths_occ {ks:List Int} {t:Raw}:∀ (xs:List Raw) (cr:Nat) (i:Int),(Raw.pths ks t xs cr i).isSome=true↔occs ks t xs cr
  | [],_,_=>by rw [Raw.pths,occs];simp
  | a :: r,cr,i=>by
    have h1:=pth_occ (ks:=ks) (t:=t) a cr
    have h2:=pths_occ (ks:=ks) (t:=t) r cr (i+1)
    rw [Raw.pths,occs]
    cases hp:Raw.pth ks t a cr with
    | some q=>rw [hp] at h1;simp at h1;simp [h1]
    | none=>rw [hp] at h1;simp at h1;simp only [h2];simp [h1]
end
theorem upS_pos {ks:List Int} {t u:Raw}:0<upS ks t u↔(t.isO=true∧u.isO=true)∧occ ks t u 0:=by
  rw [upS,Raw.up,Raw.path]
  have h1:=pth_occ (ks:=ks) (t:=t) u 0
  by_cases h:(t.isO && u.isO)=true
  · rw [if_pos h]
    rw [Bool.and_eq_true] at h
    cases hp:Raw.pth ks t u 0 with
    | none =>
      rw [hp] at h1
      simp only [upOf]
      refine ⟨fun h=>absurd h (by decide),fun h=>?_⟩
      have:=h1.2 h.2
      cases this
    | some q =>
      rw [hp] at h1
      have h2:=h1.1 rfl
      cases q with
      | nil=>simp only [upOf];exact ⟨fun _=>⟨h,h2⟩,fun _=>by decide⟩
      | cons i r=>simp only [upOf];exact ⟨fun _=>⟨h,h2⟩,fun _=>by decide⟩
  rw [if_neg h]
  simp only [upOf]
  rw [Bool.and_eq_true] at h
  exact ⟨fun h=>absurd h (by decide),fun h'=>absurd h'.1 h⟩
theorem upS_eq {ks:List Int} {t u:Raw} (h:upS ks t u=1):t.size=u.size:=by
  rw [upS,Raw.up] at h
  cases hp:Raw.path ks t u with
  | none=>rw [hp] at h;simp [upOf] at h
  | some q =>
    rw [hp] at h
    cases q with
    | cons i r=>simp [upOf] at h
    | nil =>
      rw [Raw.path] at hp
      split at hp
      · rcases pth_size ks t u 0 [] hp with ⟨_,_,h2⟩ | ⟨h1,h2⟩
        · omega
        first | omega | (simp at h1)
      cases hp
end Lfc
namespace Lfc
def vv (i:Int):Raw:=.node 5 [] i []
mutual
def Raw.cl:Raw→Bool
 | .node k n p ts=>decide (k=4) && isName n && decide (p=0) && Raw.cls ts
def Raw.cls:List Raw→Bool
 | []=>true
 | a :: r=>Raw.cl a && Raw.cls r
end
def mvv (d:Nat):Raw→Raw
 | .node k n p ts=>.node k n (if k=5 then p+(d:Int) else p) ts
theorem mvv_vv (d:Nat) (i:Int):mvv d (vv i)=vv (i+d):=by simp [mvv,vv]
theorem mvv_cl {d:Nat}:∀ {t:Raw},t.cl=true→mvv d t=t
 | .node k n p ts,h=>by
  simp only [Raw.cl,Bool.and_eq_true,decide_eq_true_eq] at h
  obtain ⟨⟨⟨rfl,_⟩,_⟩,_⟩:=h
  simp [mvv]
mutual
def sbR (vs:List Raw):Raw→Raw→Nat→Prop
 | .node k n p xs,t',d=>∃ys,sbRs vs xs ys (if k=3 then d+1 else d)∧((k=5∧(d:Int)≤p∧∃i,∃h:i<vs.length,p=(d:Int)+(i:Int)∧xs=[]∧t'=mvv d vs[i])∨(¬ (k=5∧(d:Int)≤p)∧t'=.node k n p ys))
def sbRs (vs:List Raw):List Raw→List Raw→Nat→Prop
 | [],ys,_=>ys=[]
 | a :: r,ys,d=>∃b q,ys=b :: q∧sbR vs a b d∧sbRs vs r q d
end
structure Vals (ks:List Int) (vs:List Raw):Prop where
 len:vs.length=ks.length
 rig:∀ (i:Nat) (h:i<vs.length),kindOf ks (i:Int)≠1→vs[i]=vv i
 flx:∀ (i:Nat) (h:i<vs.length),kindOf ks (i:Int)=1→vs[i].cl=true∧vs[i].size≤3
theorem sbRs_len {vs:List Raw}:∀ (xs ys:List Raw) (d:Nat),sbRs vs xs ys d→xs.length=ys.length
 | [],ys,d,h=>by rw [sbRs] at h;rw [h]
 | a :: r,ys,d,h=>by
  rw [sbRs] at h
  obtain ⟨b,q,rfl,_,h2⟩:=h
  rw [List.length_cons,List.length_cons,sbRs_len r q d h2]
mutual
theorem sub_cl {ks:List Int} {f:Nat→Int} {cr:Nat}:∀ (t:Raw) (d:Int),t.cl=true→sub ks f cr t t d
 | .node k n p ts,d,h=>by
  simp only [Raw.cl,Bool.and_eq_true,decide_eq_true_eq] at h
  obtain ⟨⟨⟨rfl,_⟩,_⟩,h⟩:=h
  rw [sub]
  exact ⟨rfl,by simp [subN],subs_cl ts _ h⟩
theorem subs_cl {ks:List Int} {f:Nat→Int} {cr:Nat}:∀ (ts:List Raw) (d:Int),Raw.cls ts=true→subs ks f cr ts ts d
 | [],d,_=>by rw [subs];trivial
 | a :: r,d,h=>by
  rw [Raw.cls,Bool.and_eq_true] at h
  rw [subs]
  exact ⟨sub_cl a d h.1,subs_cl r d h.2⟩
end
mutual
theorem sub_sb {ks:List Int} {vs:List Raw} {f:Nat→Int} {cr:Nat} (V:Vals ks vs):∀ (s t s' t':Raw) (d:Nat),sub ks f cr s t (d:Int)→sbR vs s s' (cr+d)→sbR vs t t' d→sub ks f cr s' t' (d:Int)
 | .node k n p xs,.node k' n' p' xs',s',t',d,h,hs,ht=>by
  rw [sub] at h
  obtain ⟨rfl,hN,hx⟩:=h
  rw [sbR] at hs ht
  obtain ⟨ys,hys,hs⟩:=hs
  obtain ⟨ys',hys',ht⟩:=ht
  have hl:=subs_len _ _ _ hx
  have hxy:subs ks f cr ys ys' (if k=3 then (d:Int)+1 else d):=by
   have e1:(if k=3 then cr+d+1 else cr+d)=cr+(if k=3 then d+1 else d):=by split <;> omega
   have e2:(if k=3 then (d:Int)+1 else (d:Int))=((if k=3 then d+1 else d:Nat):Int):=by split <;> omega
   rw [e1] at hys
   rw [e2] at hx ⊢
   exact subs_sb V xs xs' ys ys' _ hx hys hys'
  by_cases hk:k=5
  ·subst hk
   simp only [subN] at hN
   rw [if_neg (by decide),if_pos trivial] at hN
   rcases hs with ⟨_,hs1,i,hi,hp,hxe,rfl⟩ | ⟨hs1,rfl⟩
   ·
    rw [if_neg (by omega),if_neg (by omega)] at hN
    subst hxe
    have hxe':xs'=[]:=List.eq_nil_of_length_eq_zero (by simpa using hl.symm)
    rcases ht with ⟨_,ht1,j,hj,hp',_,rfl⟩ | ⟨ht1,rfl⟩
    ·have hij:i=j:=by omega
     subst hij
     by_cases hf:kindOf ks (i:Int)=1
     ·have hc:=(V.flx i hi hf).1
      rw [mvv_cl hc,mvv_cl hc]
      exact sub_cl _ _ hc
     rw [V.rig i hi hf,mvv_vv,mvv_vv,vv,vv,sub]
     refine ⟨rfl,?_,by rw [subs];trivial⟩
     simp only [subN]
     rw [if_neg (by decide),if_pos trivial,if_neg (by omega),if_neg (by omega)]
     omega
    exact absurd ⟨rfl,by omega⟩ ht1
   have hp:p<(cr:Int)+d:=by
    have:¬ ((cr+d:Nat):Int)≤p:=fun h=>hs1 ⟨rfl,h⟩
    omega
   by_cases h1:p-d<0
   ·rw [if_pos h1] at hN
    subst hN
    rcases ht with ⟨_,ht1,_⟩ | ⟨ht1,rfl⟩
    ·omega
    rw [sub]
    refine ⟨rfl,?_,hxy⟩
    simp only [subN]
    rw [if_neg (by decide),if_pos trivial,if_pos h1]
    trivial
   rw [if_neg h1,if_pos (by omega)] at hN
   obtain ⟨q1,q2,q3⟩:=hN
   rcases ht with ⟨_,ht1,j,hj,hp',hxe,rfl⟩ | ⟨ht1,rfl⟩
   ·subst hxe
    have hxe':xs=[]:=List.eq_nil_of_length_eq_zero (by simpa using hl)
    subst hxe'
    rw [sbRs] at hys
    subst hys
    have hjk:kindOf ks (j:Int)≠1:=by
     rw [show (j:Int)=p'-d by omega,q2];decide
    rw [V.rig j hj hjk,mvv_vv,vv,sub]
    refine ⟨rfl,?_,by rw [subs];trivial⟩
    simp only [subN]
    rw [if_neg (by decide),if_pos trivial,if_neg h1,if_pos (by omega)]
    rw [show (j:Int)+d=p' by omega]
    exact ⟨q1,q2,q3⟩
   exact absurd ⟨rfl,by omega⟩ ht1
  rcases hs with ⟨e,_⟩ | ⟨_,rfl⟩
  ·exact absurd e hk
  rcases ht with ⟨e,_⟩ | ⟨_,rfl⟩
  ·exact absurd e hk
  rw [sub]
  exact ⟨rfl,hN,hxy⟩
theorem subs_sb {ks:List Int} {vs:List Raw} {f:Nat→Int} {cr:Nat} (V:Vals ks vs):∀ (xs xs' ys ys':List Raw) (d:Nat),subs ks f cr xs xs' (d:Int)→sbRs vs xs ys (cr+d)→sbRs vs xs' ys' d→subs ks f cr ys ys' (d:Int)
 | [],[],ys,ys',d,_,h1,h2=>by
  rw [sbRs] at h1 h2
  subst h1
  subst h2
  rw [subs]
  trivial
 | a :: r,b :: q,ys,ys',d,h,h1,h2=>by
  rw [subs] at h
  rw [sbRs] at h1 h2
  obtain ⟨a',r',rfl,ha,hr⟩:=h1
  obtain ⟨b',q',rfl,hb,hq⟩:=h2
  rw [subs]
  exact ⟨sub_sb V a b a' b' d h.1 ha hb,subs_sb V r q r' q' d h.2 hr hq⟩
 | [],_ :: _,_,_,_,h,_,_=>by rw [subs] at h;exact h.elim
 | _ :: _,[],_,_,_,h,_,_=>by rw [subs] at h;exact h.elim
end
mutual
theorem sub_size {ks:List Int} {f:Nat→Int} {cr:Nat}:∀ (s t:Raw) (d:Int),sub ks f cr s t d→s.size=t.size
 | .node k n p xs,.node k' n' p' ys,d,h=>by
  rw [sub] at h
  rw [Raw.size,Raw.size,subs_size xs ys _ h.2.2]
theorem subs_size {ks:List Int} {f:Nat→Int} {cr:Nat}:∀ (xs ys:List Raw) (d:Int),subs ks f cr xs ys d→Raw.sizes xs=Raw.sizes ys
 | [],[],_,_=>rfl
 | a :: r,b :: q,d,h=>by
  rw [subs] at h
  rw [Raw.sizes,Raw.sizes,sub_size a b d h.1,subs_size r q d h.2]
 | [],_ :: _,_,h=>by rw [subs] at h;exact h.elim
 | _ :: _,[],_,h=>by rw [subs] at h;exact h.elim
end
theorem stands_sb {ks:List Int} {vs:List Raw} {cr:Nat} {s t s' t':Raw} (V:Vals ks vs) (h:Raw.stands ks cr s t=true) (hs:sbR vs s s' cr) (ht:sbR vs t t' 0):Raw.stands ks cr s' t'=true:=by
 obtain ⟨f,hf⟩:=stands_iff.1 h
 exact stands_iff.2 ⟨f,sub_sb V s t s' t' 0 hf hs ht⟩
theorem occ_root {ks:List Int} {cr:Nat} {s t:Raw} (h:Raw.stands ks cr s t=true):occ ks t s cr:=by
 obtain ⟨k,n,p,xs⟩:=s
 rw [occ]
 exact .inl h
mutual
theorem occ_sb {ks:List Int} {vs:List Raw} {t t':Raw} (V:Vals ks vs) (ht:sbR vs t t' 0):∀ (s s':Raw) (cr:Nat),occ ks t s cr→sbR vs s s' cr→occ ks t' s' cr
 | .node k n p xs,s',cr,h,hs=>by
  rw [occ] at h
  rcases h with h | ⟨h1,h2⟩
  ·exact occ_root (stands_sb V h hs ht)
  rw [sbR] at hs
  obtain ⟨ys,hys,hs⟩:=hs
  rcases hs with ⟨_,_,i,hi,_,rfl,_⟩ | ⟨_,rfl⟩
  ·rw [occs] at h2;exact h2.elim
  rw [occ]
  exact .inr ⟨by rw [Raw.pas] at h1 ⊢;exact h1,occs_sb V ht xs ys _ h2 hys⟩
theorem occs_sb {ks:List Int} {vs:List Raw} {t t':Raw} (V:Vals ks vs) (ht:sbR vs t t' 0):∀ (xs ys:List Raw) (cr:Nat),occs ks t xs cr→sbRs vs xs ys cr→occs ks t' ys cr
 | [],ys,cr,h,_=>by rw [occs] at h;exact h.elim
 | a :: r,ys,cr,h,hs=>by
  rw [occs] at h
  rw [sbRs] at hs
  obtain ⟨b,q,rfl,hb,hq⟩:=hs
  rw [occs]
  exact h.imp (fun h=>occ_sb V ht a b cr h hb) (fun h=>occs_sb V ht r q cr h hq)
end
mutual
theorem occ_size {ks:List Int} {t:Raw}:∀ (s:Raw) (cr:Nat),occ ks t s cr→t.size≤s.size
 | .node k n p xs,cr,h=>by
  rw [occ] at h
  rcases h with h | ⟨_,h⟩
  ·obtain ⟨f,hf⟩:=stands_iff.1 h
   rw [sub_size _ _ _ hf]
   exact Nat.le_refl _
  have:=occs_size xs _ h
  rw [Raw.size]
  omega
theorem occs_size {ks:List Int} {t:Raw}:∀ (xs:List Raw) (cr:Nat),occs ks t xs cr→t.size≤Raw.sizes xs
 | [],_,h=>by rw [occs] at h;exact h.elim
 | a :: r,cr,h=>by
  rw [occs] at h
  rw [Raw.sizes]
  rcases h with h | h
  ·have:=occ_size a cr h;omega
  have:=occs_size r cr h;omega
end
theorem upS_proper {ks:List Int} {t u:Raw} (h:upS ks t u=2):¬Raw.stands ks 0 u t=true:=by
 intro hs
 rw [upS,Raw.up,Raw.path] at h
 split at h
 ·obtain ⟨k,n,p,xs⟩:=u
  rw [Raw.pth,if_pos hs] at h
  simp [upOf] at h
 simp [upOf] at h
theorem upS_sb {ks:List Int} {vs:List Raw} {t u t' u':Raw} (V:Vals ks vs) (ht:t.isO=true→sbR vs t t' 0∧t'.isO=true) (hu:u.isO=true→sbR vs u u' 0∧u'.isO=true):upS ks t u≤upS ks t' u':=by
 have r1:=upS_range ks t u
 have r2:=upS_range ks t' u'
 by_cases h0:0<upS ks t u
 ·obtain ⟨⟨o1,o2⟩,hoc⟩:=upS_pos.1 h0
  obtain ⟨ht1,ht2⟩:=ht o1
  obtain ⟨hu1,hu2⟩:=hu o2
  have h3:0<upS ks t' u':=upS_pos.2 ⟨⟨ht2,hu2⟩,occ_sb V ht1 u u' 0 hoc hu1⟩
  by_cases h2:upS ks t u=2
  ·have hns:=upS_proper h2
   obtain ⟨k,n,p,xs⟩:=u
   rw [occ] at hoc
   rcases hoc with hoc | ⟨hp,hoc⟩
   ·exact absurd hoc hns
   rw [sbR] at hu1
   obtain ⟨ys,hys,hu1⟩:=hu1
   rcases hu1 with ⟨_,_,i,hi,_,rfl,_⟩ | ⟨_,rfl⟩
   ·rw [occs] at hoc;exact hoc.elim
   have h4:=occs_size ys _ (occs_sb V ht1 xs ys _ hoc hys)
   have h5:upS ks t' (.node k n p ys)≠1:=fun e=>by
    have:=upS_eq e
    rw [Raw.size] at this
    omega
   omega
  omega
 omega
structure FactsR (vs:List Raw) (fs gs:List Fact):Prop where
 len:fs.length=gs.length
 rel:∀i,(fs.getD i noFact).rel=(gs.getD i noFact).rel
 side:∀i,i<2*fs.length→(sd fs i).isO=true→sbR vs (sd fs i) (sd gs i) 0∧(sd gs i).isO=true
theorem stp_sb {ks:List Int} {vs:List Raw} {fs gs:List Fact} (V:Vals ks vs) (F:FactsR vs fs gs) {i j:Nat} (hi:i<2*fs.length) (hj:j<2*fs.length):stp ks fs i j≤stp ks gs i j:=by
 have h:=upS_sb V (F.side i hi) (F.side j hj)
 have r1:=upS_range ks (sd fs i) (sd fs j)
 have r2:=upS_range ks (sd gs i) (sd gs j)
 have e:=F.rel (i / 2)
 unfold stp
 rw [←e]
 repeat' split
 all_goals omega
theorem Rch.sb {ks:List Int} {vs:List Raw} {fs gs:List Fact} {l l':Raw} {i:Nat} {s:Int} (V:Vals ks vs) (F:FactsR vs fs gs) (hl:l.isO=true→sbR vs l l' 0∧l'.isO=true) (h:Rch ks fs l i s):∃s',Rch ks gs l' i s'∧s≤s':=by
 induction h with
 | start i hi h =>
  have:=upS_sb V hl (F.side i hi)
  exact ⟨_,.start i (by rw [←F.len];exact hi) (by omega),this⟩
 | step i j s h hj hne hs ih =>
  obtain ⟨s',h',a⟩:=ih
  have:=stp_sb V F h.lt hj
  exact ⟨_,.step i j s' h' (by rw [←F.len];exact hj) hne (by omega),by omega⟩
theorem chn_sb {ks:List Int} {vs:List Raw} {fs gs:List Fact} {l l' r r':Raw} {m:Int} (V:Vals ks vs) (F:FactsR vs fs gs) (hl:l.isO=true→sbR vs l l' 0∧l'.isO=true) (hr:r.isO=true→sbR vs r r' 0∧r'.isO=true) (h:chn ks fs l r m):chn ks gs l' r' m:=by
 rcases h with h | ⟨i,s,h1,h2,h3⟩
 ·have:=upS_sb V hl hr
  exact .inl (by omega)
 obtain ⟨s',h4,h5⟩:=h1.sb V F hl
 have:=upS_sb V (F.side i h1.lt) hr
 exact .inr ⟨i,s',h4,by omega,by omega⟩
theorem blk_isO:blk.isO=false:=by decide
def ListR (vs:List Raw) (ts ts':List Raw):Prop:=ts.length=ts'.length∧∀i,i<ts.length→(ts.getD i blk).isO=true→sbR vs (ts.getD i blk) (ts'.getD i blk) 0∧(ts'.getD i blk).isO=true
theorem ListR.at_ {vs ts ts':List Raw} (h:ListR vs ts ts') (i:Nat) (ho:(ts.getD i blk).isO=true):sbR vs (ts.getD i blk) (ts'.getD i blk) 0∧(ts'.getD i blk).isO=true:=by
 by_cases hi:i<ts.length
 ·exact h.2 i hi ho
 rw [List.getD_eq_getElem?_getD,List.getElem?_eq_none (by omega),Option.getD_none,blk_isO] at ho
 cases ho
theorem hldF_sb {ks:List Int} {vs:List Raw} {fs gs:List Fact} {o p:Ord} {ts us ts' us':List Raw} {a:Int} (V:Vals ks vs) (F:FactsR vs fs gs) (hT:ListR vs ts ts') (hU:ListR vs us us') (hok:∀t∈flat gs++ts'++us',t.twf=0∧t.isO=true) (h:hldF ks fs o p ts us a):hldF ks gs o p ts' us' a:=by
 obtain ⟨e,r⟩:=h
 rw [chkF_all] at e
 refine ⟨chkF_all.2 ⟨hok,by rw [←hT.1];exact e.2.1,by rw [←hU.1];exact e.2.2.1,e.2.2.2⟩,?_⟩
 have hL:∀i j,chF ks fs ts us 2 i j→chF ks gs ts' us' 2 i j:=fun i j h=>chn_sb V F (hT.at_ i) (hU.at_ j) h
 have hW:∀i j,chF ks fs ts us 1 i j→chF ks gs ts' us' 1 i j:=fun i j h=>chn_sb V F (hT.at_ i) (hU.at_ j) h
 have hB:∀i j,chB ks fs ts us i j→chB ks gs ts' us' i j:=fun i j h=>chn_sb V F (hU.at_ j) (hT.at_ i) h
 have hm:=ods_mono chn_21 chn_21 hL hW hB (odsOf o p)
 rcases r with ⟨e,h⟩ | ⟨e,h⟩ | ⟨e,h⟩
 ·exact .inl ⟨e,hm.1 h⟩
 ·exact .inr (.inl ⟨e,hm.2 h⟩)
 exact .inr (.inr ⟨e,ods_eq_mono hW hB _ h⟩)
mutual
theorem cl_obj:∀t:Raw,t.cl=true→t.obj=true
 | .node k n p ts,h=>by
  simp only [Raw.cl,Bool.and_eq_true,decide_eq_true_eq] at h
  obtain ⟨⟨⟨rfl,h1⟩,h2⟩,h3⟩:=h
  rw [Raw.obj]
  simp [h1,h2,cls_objs ts h3]
theorem cls_objs:∀ts:List Raw,Raw.cls ts=true→Raw.objs ts=true
 | [],_=>by rw [Raw.objs]
 | a :: r,h=>by
  rw [Raw.cls,Bool.and_eq_true] at h
  rw [Raw.objs,cl_obj a h.1,cls_objs r h.2]
  rfl
end
mutual
theorem sb_obj {ks:List Int} {vs:List Raw} (V:Vals ks vs):∀ (t t':Raw) (d:Nat),t.obj=true→sbR vs t t' d→t'.obj=true
 | .node k n p xs,t',d,h,hs=>by
  rw [sbR] at hs
  obtain ⟨ys,hys,hs⟩:=hs
  rcases hs with ⟨rfl,h1,i,hi,hp,rfl,rfl⟩ | ⟨_,rfl⟩
  ·by_cases hf:kindOf ks (i:Int)=1
   ·have hc:=(V.flx i hi hf).1
    rw [mvv_cl hc]
    exact cl_obj _ hc
   rw [V.rig i hi hf,mvv_vv,vv,show (i:Int)+d=p by omega]
   rw [Raw.obj] at h ⊢
   simp only [Raw.objs] at h ⊢
   simp at h ⊢
   omega
  have hl:=sbRs_len xs ys _ hys
  have ho:=sb_objs V xs ys (if k=3 then d+1 else d)
  rw [Raw.obj] at h ⊢
  rw [←hl]
  repeat' split at h
  all_goals first | (cases h;done) | skip
  all_goals simp only [Bool.and_eq_true] at h
  ·simp_all
  ·simp_all
  ·simp_all
  simp_all
theorem sb_objs {ks:List Int} {vs:List Raw} (V:Vals ks vs):∀ (xs ys:List Raw) (d:Nat),Raw.objs xs=true→sbRs vs xs ys d→Raw.objs ys=true
 | [],ys,d,_,hs=>by rw [sbRs] at hs;rw [hs,Raw.objs]
 | a :: r,ys,d,h,hs=>by
  rw [Raw.objs,Bool.and_eq_true] at h
  rw [sbRs] at hs
  obtain ⟨b,q,rfl,hb,hq⟩:=hs
  rw [Raw.objs,sb_obj V a b d h.1 hb,sb_objs V r q d h.2 hq]
  rfl
end
theorem mvv_size (d:Nat) (t:Raw):(mvv d t).size=t.size:=by
 obtain ⟨k,n,p,ts⟩:=t
 rw [mvv,Raw.size,Raw.size]
mutual
theorem sb_size {ks:List Int} {vs:List Raw} (V:Vals ks vs):∀ (t t':Raw) (d:Nat),sbR vs t t' d→t'.size≤3*t.size
 | .node k n p xs,t',d,hs=>by
  rw [sbR] at hs
  obtain ⟨ys,hys,hs⟩:=hs
  rcases hs with ⟨_,_,i,hi,_,_,rfl⟩ | ⟨_,rfl⟩
  ·rw [mvv_size,Raw.size]
   by_cases hf:kindOf ks (i:Int)=1
   ·have:=(V.flx i hi hf).2;omega
   rw [V.rig i hi hf,vv,Raw.size,Raw.sizes];omega
  have:=sb_sizes V xs ys _ hys
  rw [Raw.size,Raw.size]
  omega
theorem sb_sizes {ks:List Int} {vs:List Raw} (V:Vals ks vs):∀ (xs ys:List Raw) (d:Nat),sbRs vs xs ys d→Raw.sizes ys≤3*Raw.sizes xs
 | [],ys,d,hs=>by rw [sbRs] at hs;rw [hs,Raw.sizes];omega
 | a :: r,ys,d,hs=>by
  rw [sbRs] at hs
  obtain ⟨b,q,rfl,hb,hq⟩:=hs
  have h1:=sb_size V a b d hb
  have h2:=sb_sizes V r q d hq
  rw [Raw.sizes,Raw.sizes]
  omega
end
theorem sb_ok {ks:List Int} {vs:List Raw} {t t':Raw} (V:Vals ks vs) (ho:t.isO=true) (hz:t.size≤40) (h:sbR vs t t' 0):t'.twf=0∧t'.isO=true:=by
 rw [Raw.isO,Bool.and_eq_true] at ho
 have h1:=sb_obj V t t' 0 ho.1 h
 have h2:=Raw.depth_le_size _ t' (Nat.le_refl _)
 have h4:=sb_size V t t' 0 h
 have h3:t'.small=true:=by
  rw [Raw.small,Bool.and_eq_true,decide_eq_true_eq,decide_eq_true_eq]
  omega
 rw [Raw.twf,Raw.isO,h1,h3]
 simp
end Lfc
namespace Go.Proofs.YtadjpadieljjlaaGreat
open Go.RowKit Go.Maps
attribute [local go_sem ↓] Go.wp_at_zero Go.wp_at_succ
def SimsAt (w:World) (B:Option Addr) (n:Nat):Prop:=0<n→∃b o,B=some ⟨b,o,none⟩∧b<w.heap.size∧∀k,k<n→w.cell? ⟨b,o+k*2,none⟩=some (S [105])∧w.cell? ⟨b,o+k*2+1,none⟩=some (.slice none 0 0)
theorem SimsAt.below {w w':World} {B:Option Addr} {n:Nat} (h:SimsAt w B n) (hb:Below w.heap.size w w'):SimsAt w' B n:=fun hn=>by
 obtain ⟨b,o,hB,hlt,hc⟩:=h hn
 exact ⟨b,o,hB,Nat.lt_of_lt_of_le hlt hb.size,fun k hk=>⟨(hb.cell (p:=⟨b,o+k*2,none⟩) hlt).trans (hc k hk).1,(hb.cell (p:=⟨b,o+k*2+1,none⟩) hlt).trans (hc k hk).2⟩⟩
theorem s7Size (w:World):Calls Tryz.prog 106 #[.agg #[S [105],.slice none 0 0]] w fun e w'=>e=.returned (.int .i64 1)∧Below w.heap.size w w':=by
 obtain ⟨w0,hw0⟩:∃w0,w.alloc (.cells #[S [105],.slice none 0 0] 63)=w0:=⟨_,rfl⟩
 have b0:=zG hw0
 have q0:=zQ hw0
 have x0:=(zC q0 0:w0.cell? ⟨w.heap.size,0,none⟩=some (S [105]))
 have x1:=(zC q0 1:w0.cell? ⟨w.heap.size,1,none⟩=some (.slice none 0 0))
 have B0:=zH b0
 have Q0:=zH q0
 clear b0 q0
 go_enter Tryz.func106,Tryz.ntmps106
 go_wp2_with fail
 go_loopw [3,4] (fun n i wr=>n=.int .i64 1∧i=.int .i64 0∧wr=w0) (fun _ _ _=>0)
 case atStart=>exact ⟨rfl,rfl,by first | rfl | exact hw0⟩
 obtain ⟨rfl,rfl,rfl⟩:=hrel
 go_wp2_with fail
 go_ret
 exact ⟨rfl,B0.out⟩
theorem s7Depth (w:World):Calls Tryz.prog 107 #[.agg #[S [105],.slice none 0 0]] w fun e w'=>e=.returned (.int .i64 1)∧Below w.heap.size w w':=by
 obtain ⟨w0,hw0⟩:∃w0,w.alloc (.cells #[S [105],.slice none 0 0] 63)=w0:=⟨_,rfl⟩
 have b0:=zG hw0
 have q0:=zQ hw0
 have x0:=(zC q0 0:w0.cell? ⟨w.heap.size,0,none⟩=some (S [105]))
 have x1:=(zC q0 1:w0.cell? ⟨w.heap.size,1,none⟩=some (.slice none 0 0))
 have B0:=zH b0
 have Q0:=zH q0
 clear b0 q0
 go_enter Tryz.func107,Tryz.ntmps107
 go_wp2_with fail
 go_loopw [3,4] (fun n i wr=>n=.int .i64 0∧i=.int .i64 0∧wr=w0) (fun _ _ _=>0)
 case atStart=>exact ⟨rfl,rfl,by first | rfl | exact hw0⟩
 obtain ⟨rfl,rfl,rfl⟩:=hrel
 go_wp2_with fail
 go_ret
 exact ⟨rfl,B0.out⟩
theorem s7Form (w:World):Calls Tryz.prog 105 #[.agg #[S [105],.slice none 0 0]] w fun e w'=>(∃b,e=.returned (.bool b))∧Below w.heap.size w w':=by
 obtain ⟨w0,hw0⟩:∃w0,w.alloc (.cells #[S [105],.slice none 0 0] 63)=w0:=⟨_,rfl⟩
 have b0:=zG hw0
 have q0:=zQ hw0
 have x0:=(zC q0 0:w0.cell? ⟨w.heap.size,0,none⟩=some (S [105]))
 have x1:=(zC q0 1:w0.cell? ⟨w.heap.size,1,none⟩=some (.slice none 0 0))
 have B0:=zH b0
 have Q0:=zH q0
 clear b0 q0
 have CN:=zH (fun W=>rIsName_any [105] W (by decide))
 generalize Lfc.isName [105]=q at CN
 cases q with
 | false =>
  go_enter Tryz.func105,Tryz.ntmps105
  go_wp2_with fail
  refine (CN.out _).mono ?_
  rintro e w1 ⟨rfl,rfl⟩
  go_wp2_with fail
  go_ret
  exact ⟨⟨_,rfl⟩,B0.out⟩
 | true =>
  go_enter Tryz.func105,Tryz.ntmps105
  go_wp2_with fail
  refine (CN.out _).mono ?_
  rintro e w1 ⟨rfl,rfl⟩
  go_wp2_with fail
  go_loopw [3] (fun i wr=>i=.int .i64 0∧wr=w0) (fun _ _=>0)
  case atStart=>exact ⟨rfl,by first | rfl | exact hw0⟩
  obtain ⟨rfl,rfl⟩:=hrel
  go_wp2_with fail
  go_ret
  exact ⟨⟨_,rfl⟩,B0.out⟩
theorem s7Wf (w:World):Calls Tryz.prog 77 #[.agg #[S [105],.slice none 0 0]] w fun e w'=>(∃z:Int,e=.returned (.int .i64 z))∧Below w.heap.size w w':=by
 obtain ⟨w0,hw0⟩:∃w0,w.alloc (.cells #[S [105],.slice none 0 0] 63)=w0:=⟨_,rfl⟩
 have b0:=zG hw0
 have q0:=zQ hw0
 have x0:=(zC q0 0:w0.cell? ⟨w.heap.size,0,none⟩=some (S [105]))
 have x1:=(zC q0 1:w0.cell? ⟨w.heap.size,1,none⟩=some (.slice none 0 0))
 have B0:=zH b0
 have Q0:=zH q0
 clear b0 q0
 have s0:=zL Q0.out
 go_enter Tryz.func77,Tryz.ntmps77
 go_wp2_with fail
 refine (s7Form _).mono ?_
 rintro e w1 ⟨⟨b,rfl⟩,hb1⟩
 clear x0 x1 hw0
 have HB1:=zH (B0.out.trans (hb1.mono B0.out.size))
 have q1:=(hb1.block _ s0).trans Q0.out
 have s1:=zL q1
 have x0:=(zC q1 0:w1.cell? ⟨w.heap.size,0,none⟩=some (S [105]))
 have x1:=(zC q1 1:w1.cell? ⟨w.heap.size,1,none⟩=some (.slice none 0 0))
 have Q1:=zH q1
 clear hb1 q1
 cases b with
 | false =>
  go_wp2_with fail
  go_ret
  exact ⟨⟨_,rfl⟩,HB1.out⟩
 | true =>
  go_wp2_with fail
  refine (s7Size _).mono ?_
  rintro e w2 ⟨rfl,hb2⟩
  clear x0 x1
  have HB2:=zH (HB1.out.trans (hb2.mono HB1.out.size))
  have q2:=(hb2.block _ s1).trans Q1.out
  have x0:=(zC q2 0:w2.cell? ⟨w.heap.size,0,none⟩=some (S [105]))
  have x1:=(zC q2 1:w2.cell? ⟨w.heap.size,1,none⟩=some (.slice none 0 0))
  clear hb2 q2
  go_wp2_with fail
  refine (s7Depth _).mono ?_
  rintro e w3 ⟨rfl,hb3⟩
  have HB3:=zH (HB2.out.trans (hb3.mono HB2.out.size))
  clear hb3 x0 x1
  go_wp2_with fail
  go_ret
  exact ⟨⟨_,rfl⟩,HB3.out⟩
theorem m8Simples (B:Option Addr) (n c:Nat) (w:World) (hn:n≤1000) (h:SimsAt w B n):Calls Tryz.prog 50 #[.slice B n c] w fun e w'=>(∃z:Int,e=.returned (.int .i64 z))∧Below w.heap.size w w':=by
 have HS:=zH h
 clear h
 go_enter Tryz.func50,Tryz.ntmps50
 go_wp2_with fail
 go_loopw [3] (fun i wr=>∃k:Nat,k≤n∧i=.int .i64 k∧Hid (Below w.heap.size w wr)) (fun i _=>n-(intOf i).toNat)
 case atStart=>exact ⟨0,by omega,rfl,zH (zB _ _)⟩
 obtain ⟨k,hk,rfl,HB⟩:=hrel
 by_cases hlt:k<n
 ·obtain ⟨b,o,rfl,hb,hc⟩:=HS.out (by omega)
  have d0:=(HB.out.cell (p:=⟨b,o+k*2,none⟩) hb).trans (hc k hlt).1
  have d1:=(HB.out.cell (p:=⟨b,o+k*2+1,none⟩) hb).trans (hc k hlt).2
  have hlt1:(k:Int)<(n:Int):=by omega
  have hi0:(0:Int)≤(k:Int):=by omega
  clear hc
  go_wp2_with fail
  refine (s7Wf _).mono ?_
  rintro e w1 ⟨⟨z,rfl⟩,hb1⟩
  have HB1:=zH (HB.out.trans (hb1.mono HB.out.size))
  clear d0 d1 hb1
  by_cases hz:z=0
  ·subst hz
   go_wp2_with fail
   go_roundw
   case rel=>exact ⟨k+1,by omega,by go_num,HB1⟩
   case measure=>simp [intOf];omega
  have hz1:(z == 0)=false:=by simpa using hz
  have hz2:decide (z=0)=false:=by simpa using hz
  go_wp2_with fail
  go_ret
  exact ⟨⟨_,rfl⟩,HB1.out⟩
 obtain rfl:k=n:=by omega
 go_wp2_with fail
 go_ret
 exact ⟨⟨_,rfl⟩,HB.out⟩
theorem sIsObj_any (t:Lfc.Raw) (v:Value) (w:World) (ht:t.size≤1000000) (hv:TreeV w t v) :
  Calls Tryz.prog 78 #[v] w fun e w'=>(∃b,e=.returned (.bool b))∧Below w.heap.size w w':=by
 have HV:=zH hv
 obtain ⟨kd,nm,ps,ts⟩:=t
 obtain ⟨A,c,rfl,hc,hA⟩:=hv.open_
 obtain ⟨w0,hw0⟩:∃w0,w.alloc (.cells #[.int .i64 kd,S nm,.int .i64 ps,.slice A ts.length c] 51)=w0:=⟨_,rfl⟩
 have b0:=zG hw0
 have q0:=zQ hw0
 have s0:=zL q0
 obtain ⟨x0,x1,x2,x3⟩:=cells4t q0
 have C1:=zH (fun W (hb:Below w0.heap.size w0 W)=>sSorts_upto 1000000 (by omega) _ _ W ht (HV.out.below (b0.trans (hb.mono b0.size))))
 have C2:=zH (fun W (hb:Below w0.heap.size w0 W)=>sSmall_any _ _ W ht (HV.out.below (b0.trans (hb.mono b0.size))))
 have B0:=zH b0
 have Q0:=zH q0
 clear hv hA b0 q0 ht
 go_enter Tryz.func78,Tryz.ntmps78
 go_wp2_with fail
 refine (C1.out _ (zB _ _)).mono ?_
 rintro e w1 ⟨⟨r,hr,rfl⟩,hb1⟩
 obtain ⟨r2,hr2,he⟩:=and_lt hr 1 (by omega)
 clear x0 x1 x2 x3 hw0
 obtain ⟨x0,x1,x2,x3⟩:=cells4t ((hb1.block _ s0).trans Q0.out)
 have HB1:=zH hb1
 clear hb1
 by_cases hz:r2=0
 ·subst hz
  go_wp2_with fail
  go_ret
  exact ⟨⟨_,rfl⟩,B0.out.trans (HB1.out.mono B0.out.size)⟩
 have hz1:((r2:Int) == 0)=false:=by simp;omega
 go_wp2_with fail
 refine (C2.out _ HB1.out).mono ?_
 rintro e w2 ⟨⟨b,rfl⟩,hb2⟩
 have HB2:=zH (B0.out.trans ((HB1.out.trans (hb2.mono HB1.out.size)).mono B0.out.size))
 clear hb2
 go_wp2_with fail
 go_ret
 exact ⟨⟨_,rfl⟩,HB2.out⟩
theorem m5Formed (ts:List Lfc.Raw) (A:Option Addr) (c:Nat) (w:World) (hn:ts.length≤1000) (hs:∀t∈ts,t.size≤1000000) (h:TreesAt w A ts):Calls Tryz.prog 49 #[.slice A ts.length c] w fun e w'=>(∃z:Int,e=.returned (.int .i64 z))∧Below w.heap.size w w':=by
 have HS:=zH h
 have HZ:=zH hs
 clear h hs
 go_enter Tryz.func49,Tryz.ntmps49
 go_wp2_with fail
 go_loopw [3] (fun i wr=>∃k:Nat,k≤ts.length∧i=.int .i64 k∧Hid (Below w.heap.size w wr)) (fun i _=>ts.length-(intOf i).toNat)
 case atStart=>exact ⟨0,by omega,rfl,zH (zB _ _)⟩
 obtain ⟨k,hk,rfl,HB⟩:=hrel
 by_cases hlt:k<ts.length
 ·have hsz:=HZ.out ts[k] (List.getElem_mem _)
  obtain ⟨b,o,k1,n1,p1,us,B,c1,rfl,hb,ht,d0,d1,d2,d3,hcu,hB,hT⟩:=(HS.out.below HB.out).at_ hlt
  have CALL:=zH (sWf_any _ _ wr hsz hT)
  have hlt1:(k:Int)<(ts.length:Int):=by omega
  have hi0:(0:Int)≤(k:Int):=by omega
  clear hB ht hT hsz
  go_wp2_with fail
  refine CALL.out.mono ?_
  rintro e w1 ⟨⟨z,rfl⟩,hb1⟩
  have HB1:=zH (HB.out.trans (hb1.mono HB.out.size))
  clear d0 d1 d2 d3 hb1
  by_cases hz:z=0
  ·subst hz
   go_wp2_with fail
   go_roundw
   case rel=>exact ⟨k+1,by omega,by go_num,HB1⟩
   case measure=>simp [intOf];omega
  have hz1:(z == 0)=false:=by simpa using hz
  have hz2:decide (z=0)=false:=by simpa using hz
  go_wp2_with fail
  go_ret
  exact ⟨⟨_,rfl⟩,HB1.out⟩
 obtain rfl:k=ts.length:=by omega
 go_wp2_with fail
 go_ret
 exact ⟨⟨_,rfl⟩,HB.out⟩
theorem m8Objects (ts:List Lfc.Raw) (A:Option Addr) (c:Nat) (w:World) (hn:ts.length≤1000) (hs:∀t∈ts,t.size≤1000000) (h:TreesAt w A ts):Calls Tryz.prog 51 #[.slice A ts.length c] w fun e w'=>(∃z:Int,e=.returned (.int .i64 z))∧Below w.heap.size w w':=by
 have HS:=zH h
 have HZ:=zH hs
 clear h hs
 go_enter Tryz.func51,Tryz.ntmps51
 go_wp2_with fail
 go_loopw [3] (fun i wr=>∃k:Nat,k≤ts.length∧i=.int .i64 k∧Hid (Below w.heap.size w wr)) (fun i _=>ts.length-(intOf i).toNat)
 case atStart=>exact ⟨0,by omega,rfl,zH (zB _ _)⟩
 obtain ⟨k,hk,rfl,HB⟩:=hrel
 by_cases hlt:k<ts.length
 ·have hsz:=HZ.out ts[k] (List.getElem_mem _)
  obtain ⟨b,o,k1,n1,p1,us,B,c1,rfl,hb,ht,d0,d1,d2,d3,hcu,hB,hT⟩:=(HS.out.below HB.out).at_ hlt
  have CALL:=zH (sIsObj_any _ _ wr hsz hT)
  have hlt1:(k:Int)<(ts.length:Int):=by omega
  have hi0:(0:Int)≤(k:Int):=by omega
  clear hB ht hT hsz
  go_wp2_with fail
  refine CALL.out.mono ?_
  rintro e w1 ⟨⟨z,rfl⟩,hb1⟩
  have HB1:=zH (HB.out.trans (hb1.mono HB.out.size))
  clear d0 d1 d2 d3 hb1
  cases z with
  | true =>
   go_wp2_with fail
   go_roundw
   case rel=>exact ⟨k+1,by omega,by go_num,HB1⟩
   case measure=>simp [intOf];omega
  | false =>
   go_wp2_with fail
   go_ret
   exact ⟨⟨_,rfl⟩,HB1.out⟩
 obtain rfl:k=ts.length:=by omega
 go_wp2_with fail
 go_ret
 exact ⟨⟨_,rfl⟩,HB.out⟩
end Go.Proofs.YtadjpadieljjlaaGreat
