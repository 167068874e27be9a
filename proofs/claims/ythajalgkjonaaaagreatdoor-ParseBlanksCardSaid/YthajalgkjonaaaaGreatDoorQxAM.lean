/- Parts of the proof that no input makes the law false: OpRes. -/
import Derived.Test.YthajalgkjonaaaaGreatDoorQxAL
set_option linter.unusedVariables false
set_option linter.unusedSimpArgs false
namespace Go.Proofs.YthajalgkjonaaaaGreatDoor
open Go.RowKit Go.Maps Go.WideMaps
theorem slice_from{w0:World}{b0 o0 c:Nat}{s:List Lfc.Opd}(hp:0<s.length)(hc:s.length≤c)(hs:OpdsAt w0 (some ⟨b0,o0,none⟩) s):∃A3 c3,(∀W:World,(Instr.sliceAt 127 (.slice (some ⟨b0,o0,none⟩) s.length c) (some (.int .i64 1)) none none).run Tryz.prog W=.ok (.slice A3 (s.drop 1).length c3) W)∧OpdsAt w0 A3 (s.drop 1)∧(s.drop 1).length≤c3:=by
 refine⟨if c=1 then some ⟨b0,o0,none⟩ else some ⟨b0,o0+1*5,none⟩,c-1,fun W=>?_,?_,by rw[List.length_drop];omega⟩
 ·have hsz:(sizeOf (Tryz.prog.elem 127)).run Tryz.prog W=.ok 5 W:=by kernel_rfl
  rw[run_sliceAt_slice _ _ _ _ _ _ (by kernel_rfl),run_slice_l _ _ _ _ _ (by kernel_rfl) .i64 1 (by omega) (by omega),hsz,List.length_drop]
  simp only[Result.andThen,sliced,Option.map_some,Go.WideShapes.add_plain]
  rfl
 ·by_cases hcb:c=1
  ·intro hne
   exact absurd (List.length_eq_zero_iff.1 (by rw[List.length_drop];omega)) hne
  ·rw[if_neg hcb]
   have:=hs.part 1 s.length
   rwa[List.take_length] at this
theorem slice_to{w0:World}{b0 o0 c:Nat}{s:List Lfc.Opd}(hp:0<s.length)(hc:s.length≤c)(hs:OpdsAt w0 (some ⟨b0,o0,none⟩) s):∃A3 c3,(∀W:World,(Instr.sliceAt 127 (.slice (some ⟨b0,o0,none⟩) s.length c) none (some (.int .i64 ((s.length:Int)-1))) none).run Tryz.prog W=.ok (.slice A3 (s.take (s.length-1)).length c3) W)∧OpdsAt w0 A3 (s.take (s.length-1))∧(s.take (s.length-1)).length≤c3:=by
 refine⟨some ⟨b0,o0,none⟩,c,fun W=>?_,?_,by rw[List.length_take];omega⟩
 ·have hsz:(sizeOf (Tryz.prog.elem 127)).run Tryz.prog W=.ok 5 W:=by kernel_rfl
  rw[run_sliceAt_slice _ _ _ _ _ _ (by kernel_rfl),run_slice_h _ _ _ _ _ (by kernel_rfl) .i64 _ (by omega) (by omega),hsz,List.length_take,Nat.min_eq_left (by omega),show((s.length:Int)-1).toNat=s.length-1 by omega]
  simp[Result.andThen,sliced,Addr.add]
 ·have:=hs.part 0 (s.length-1)
  simpa using this
set_option maxRecDepth 100000 in
set_option maxHeartbeats 2000000 in
theorem res_nil(F:Prop)(w0:World)(Rb Mb:Nat)(l:List Lfc.Op)(A:Option Addr)(c:Nat)(w:World)(h:EnvR w0 Rb Mb l w) :
  Calls Tryz.prog 123 #[.pointer (some ⟨Rb,0,none⟩),.slice A 0 c] w (ResErr w Rb Mb 21):=by
 obtain⟨wa,hwa⟩:∃wa,w.alloc (.cells #[.int .i64 0,S [],.int .i64 0,.slice none 0 0] 46)=wa:=⟨_,rfl⟩
 have ba:Below w.heap.size w wa:=by rw[←hwa];exact(Below.refl _ _).alloc (Nat.le_refl _) _
 have qr:wa.heap[w.heap.size]?=some (.cells #[.int .i64 0,S [],.int .i64 0,.slice none 0 0] 46 (0,0)):=by rw[←hwa];exact heap_alloc_new _ _
 have hrb:=h.lt
 have BA:=Lib.hid ba
 have QR3:=Lib.hid qr
 have OW3:=Lib.hid (Oth.of_below (T:=Rb) ba)
 have hsa:=ba.size
 have CF:=Lib.hid (fail_any w0 Rb Mb l 21 wa (h.new ba))
 clear h ba qr
 go_enter Tryz.func123,Tryz.ntmps123
 go_upto_region 1 with fail
 clear hwa
 go_wp2_with fail
 refine CF.out.mono ?_
 rintro ee w5⟨rfl,hc5,o5⟩
 have qr5:=o5.heap QR3.out (by omega)
 obtain⟨s1,s2,s3,s4,g1,g2,g3,g4,⟨y0,y1,y2,y3⟩,⟨f0,f1,f2,f3⟩,hq,ho⟩:=put4 qr5 (.int .i64 0) (S []) (.int .i64 0) (.slice none 0 0)
 have HF:=Lib.hid (oth_fin (OW3.out.trans o5) (Below.refl _ _) ho (Nat.le_refl _) hrb hc5)
 have HQ:=Lib.hid hq
 clear hq ho hc5 o5 qr5
 go_wp2_with fail
 refine bodyPost_ret (results_raw2 rfl _ _ _ _ _ _ _ rfl HQ.out) rfl ?_
 exact⟨rfl,HF.out.1,HF.out.2⟩
set_option maxRecDepth 100000 in
set_option maxHeartbeats 4000000 in
theorem res_mixed(F:Prop)(w0:World)(Rb Mb:Nat)(l:List Lfc.Op)(m:Nat)(ih:ResUpto F w0 Rb Mb l m)(s:List Lfc.Opd)(A:Option Addr)(c:Nat)(w:World)(hpos:0<s.length)(hm:s.length≤m+1)(hl:s.length≤1000000)(hc:s.length≤c)(hsm:Small F s)(hs:OpdsAt w0 A s)(h:EnvR w0 Rb Mb l w)(hnz:0<(Lfc.low l s).at_.length)(hsame:(Lfc.low l s).same=false) :
  Calls Tryz.prog 123 #[.pointer (some ⟨Rb,0,none⟩),.slice A s.length c] w (ResPost F w0 w Rb Mb (Lfc.resP l (m+1) s)):=by
 obtain⟨b0,o0,rfl,hb0,_⟩:=hs (by intro e;rw[e] at hpos;simp at hpos)
 obtain⟨wa,hwa⟩:∃wa,w.alloc (.cells #[.int .i64 0,S [],.int .i64 0,.slice none 0 0] 46)=wa:=⟨_,rfl⟩
 have ba:Below w.heap.size w wa:=by rw[←hwa];exact(Below.refl _ _).alloc (Nat.le_refl _) _
 have qr:wa.heap[w.heap.size]?=some (.cells #[.int .i64 0,S [],.int .i64 0,.slice none 0 0] 46 (0,0)):=by rw[←hwa];exact heap_alloc_new _ _
 have hsa:=eq2 (show wa.heap.size=w.heap.size+1 by rw[←hwa];simp)
 have HE:=Lib.hid (h.new ba)
 have hrb:=h.lt
 have hrge:=h.rge
 have hs0:=h.bel.size
 have BA:=Lib.hid ba
 have QR:=Lib.hid qr
 have HS:=Lib.hid hs
 have IH:=Lib.hid ih
 have HSM:=Lib.hid hsm
 have CL:=Lib.hid (lowest_any w0 Rb Mb l s _ c wa (by omega) hs HE.out)
 have HRP:Hid (Lfc.resP l (m+1) s=Lfc.resBody l (Lfc.resP l m) s):=Lib.hid (if_neg (by omega))
 have HPL:=Lib.hid (Lfc.low_at l s)
 have hz2:((s.length:Int) == 0)=false:=by simp;intro e;rw[e] at hpos;simp at hpos
 clear h ba qr hs ih hsm
 have HRES:Hid (Lfc.resP l (m+1) s=.error 22):=Lib.hid (by rw[HRP.out];unfold Lfc.resBody;rw[if_neg (by omega),if_pos hsame])
 generalize hL:Lfc.low l s=L at *
 obtain⟨at_,⟨fn,ff,fp⟩,sm⟩:=L
 simp only at hnz hsame HPL CL 
 clear hL
 have hnz2:((at_.length:Int) == 0)=false:=by simp;intro e;rw[e] at hnz;simp at hnz
 subst hsame
 go_enter Tryz.func123,Tryz.ntmps123
 go_upto_region 1 with fail
 clear hwa
 go_wp2_with fail
 refine CL.out.mono ?_
 rintro e w1⟨A1,c1,rfl,HO1,b1⟩
 have hs1:=b1.size
 unfold opV
 obtain⟨w2,hw2⟩:∃w2,w1.alloc (.cells #[S fn,.int .i64 ff,.int .i64 fp] 34)=w2:=⟨_,rfl⟩
 have b2:Below w1.heap.size w1 w2:=by rw[←hw2];exact(Below.refl _ _).alloc (Nat.le_refl _) _
 have q2:w2.heap[w1.heap.size]?=some (.cells #[S fn,.int .i64 ff,.int .i64 fp] 34 (0,0)):=by rw[←hw2];exact heap_alloc_new _ _
 have b12:Below wa.heap.size wa w2:=b1.trans (b2.mono hs1)
 have hs2:=b12.size
 have E2:=Lib.hid (HE.out.new b12)
 have QR2:=Lib.hid ((b12.block _ (by omega)).trans QR.out)
 have OW:=Lib.hid (Oth.of_below (T:=Rb) (BA.out.trans (b12.mono (by omega))))
 have HO2:=Lib.hid (own_below HO1.out b2)
 obtain⟨u0,u1,u2⟩:=cells3 q2
 have hu1:=lt_of_block q2
 have Q2:=Lib.hid q2
 have HW2:=Lib.hid hw2
 have hrb2:Rb<wa.heap.size:=by omega
 clear hw2 b1 b2 q2
 go_upto_region 4 with fail
 rw[HW2.out]
 have QR3:=QR2
 have OW3:=OW
 have hw3s:wa.heap.size≤w2.heap.size:=hs2
 have CF:=Lib.hid (fail_any w0 Rb Mb l 22 w2 E2.out)
 go_wp2_with fail
 refine CF.out.mono ?_
 rintro ee w5⟨rfl,hc5,o5⟩
 have qr5:=o5.heap QR3.out (by omega)
 obtain⟨s1,s2,s3,s4,g1,g2,g3,g4,⟨y0,y1,y2,y3⟩,⟨f0,f1,f2,f3⟩,hq,ho⟩:=put4 qr5 (.int .i64 0) (S []) (.int .i64 0) (.slice none 0 0)
 have HF:=Lib.hid (oth_fin (OW3.out.trans o5) (Below.refl _ _) ho (Nat.le_refl _) hrb hc5)
 have HQ:=Lib.hid hq
 clear hq ho hc5 o5 qr5
 go_wp2_with fail
 refine bodyPost_ret (results_raw2 rfl _ _ _ _ _ _ _ rfl HQ.out) rfl ?_
 rw[HRES.out]
 exact⟨rfl,HF.out.1,HF.out.2⟩
set_option maxRecDepth 100000 in
set_option maxHeartbeats 4000000 in
theorem res_two(F:Prop)(w0:World)(Rb Mb:Nat)(l:List Lfc.Op)(m:Nat)(ih:ResUpto F w0 Rb Mb l m)(s:List Lfc.Opd)(A:Option Addr)(c:Nat)(w:World)(hpos:0<s.length)(hm:s.length≤m+1)(hl:s.length≤1000000)(hc:s.length≤c)(hsm:Small F s)(hs:OpdsAt w0 A s)(h:EnvR w0 Rb Mb l w)(hnz:0<(Lfc.low l s).at_.length)(hsame:(Lfc.low l s).same=true)(hf:(Lfc.low l s).first.fix=3)(h1:1<(Lfc.low l s).at_.length) :
  Calls Tryz.prog 123 #[.pointer (some ⟨Rb,0,none⟩),.slice A s.length c] w (ResPost F w0 w Rb Mb (Lfc.resP l (m+1) s)):=by
 obtain⟨b0,o0,rfl,hb0,_⟩:=hs (by intro e;rw[e] at hpos;simp at hpos)
 obtain⟨wa,hwa⟩:∃wa,w.alloc (.cells #[.int .i64 0,S [],.int .i64 0,.slice none 0 0] 46)=wa:=⟨_,rfl⟩
 have ba:Below w.heap.size w wa:=by rw[←hwa];exact(Below.refl _ _).alloc (Nat.le_refl _) _
 have qr:wa.heap[w.heap.size]?=some (.cells #[.int .i64 0,S [],.int .i64 0,.slice none 0 0] 46 (0,0)):=by rw[←hwa];exact heap_alloc_new _ _
 have hsa:=eq2 (show wa.heap.size=w.heap.size+1 by rw[←hwa];simp)
 have HE:=Lib.hid (h.new ba)
 have hrb:=h.lt
 have hrge:=h.rge
 have hs0:=h.bel.size
 have BA:=Lib.hid ba
 have QR:=Lib.hid qr
 have HS:=Lib.hid hs
 have IH:=Lib.hid ih
 have HSM:=Lib.hid hsm
 have CL:=Lib.hid (lowest_any w0 Rb Mb l s _ c wa (by omega) hs HE.out)
 have HRP:Hid (Lfc.resP l (m+1) s=Lfc.resBody l (Lfc.resP l m) s):=Lib.hid (if_neg (by omega))
 have HPL:=Lib.hid (Lfc.low_at l s)
 have hz2:((s.length:Int) == 0)=false:=by simp;intro e;rw[e] at hpos;simp at hpos
 clear h ba qr hs ih hsm
 have HRES:Hid (Lfc.resP l (m+1) s=.error 22):=Lib.hid (by rw[HRP.out];unfold Lfc.resBody;rw[if_neg (by omega),if_neg (by simp[hsame]),if_neg (by omega),if_neg (by omega),if_pos ⟨hf,h1⟩])
 generalize hL:Lfc.low l s=L at *
 obtain⟨at_,⟨fn,ff,fp⟩,sm⟩:=L
 simp only at hnz hsame HPL CL hf h1
 clear hL
 have hnz2:((at_.length:Int) == 0)=false:=by simp;intro e;rw[e] at hnz;simp at hnz
 have h1i:(1:Int)<(at_.length:Int):=by omega
 have h1d:decide (1<at_.length)=true:=by simpa using h1
 subst hsame hf
 go_enter Tryz.func123,Tryz.ntmps123
 go_upto_region 1 with fail
 clear hwa
 go_wp2_with fail
 refine CL.out.mono ?_
 rintro e w1⟨A1,c1,rfl,HO1,b1⟩
 have hs1:=b1.size
 unfold opV
 obtain⟨w2,hw2⟩:∃w2,w1.alloc (.cells #[S fn,.int .i64 3,.int .i64 fp] 34)=w2:=⟨_,rfl⟩
 have b2:Below w1.heap.size w1 w2:=by rw[←hw2];exact(Below.refl _ _).alloc (Nat.le_refl _) _
 have q2:w2.heap[w1.heap.size]?=some (.cells #[S fn,.int .i64 3,.int .i64 fp] 34 (0,0)):=by rw[←hw2];exact heap_alloc_new _ _
 have b12:Below wa.heap.size wa w2:=b1.trans (b2.mono hs1)
 have hs2:=b12.size
 have E2:=Lib.hid (HE.out.new b12)
 have QR2:=Lib.hid ((b12.block _ (by omega)).trans QR.out)
 have OW:=Lib.hid (Oth.of_below (T:=Rb) (BA.out.trans (b12.mono (by omega))))
 have HO2:=Lib.hid (own_below HO1.out b2)
 obtain⟨u0,u1,u2⟩:=cells3 q2
 have hu1:=lt_of_block q2
 have Q2:=Lib.hid q2
 have HW2:=Lib.hid hw2
 have hrb2:Rb<wa.heap.size:=by omega
 clear hw2 b1 b2 q2
 go_upto_region 4 with fail
 rw[HW2.out]
 have QR3:=QR2
 have OW3:=OW
 have hw3s:wa.heap.size≤w2.heap.size:=hs2
 have CF:=Lib.hid (fail_any w0 Rb Mb l 22 w2 E2.out)
 go_wp2_with fail
 refine CF.out.mono ?_
 rintro ee w5⟨rfl,hc5,o5⟩
 have qr5:=o5.heap QR3.out (by omega)
 obtain⟨s1,s2,s3,s4,g1,g2,g3,g4,⟨y0,y1,y2,y3⟩,⟨f0,f1,f2,f3⟩,hq,ho⟩:=put4 qr5 (.int .i64 0) (S []) (.int .i64 0) (.slice none 0 0)
 have HF:=Lib.hid (oth_fin (OW3.out.trans o5) (Below.refl _ _) ho (Nat.le_refl _) hrb hc5)
 have HQ:=Lib.hid hq
 clear hq ho hc5 o5 qr5
 go_wp2_with fail
 refine bodyPost_ret (results_raw2 rfl _ _ _ _ _ _ _ rfl HQ.out) rfl ?_
 rw[HRES.out]
 exact⟨rfl,HF.out.1,HF.out.2⟩
set_option maxRecDepth 100000 in
set_option maxHeartbeats 4000000 in
theorem res_bin3(F:Prop)(w0:World)(Rb Mb:Nat)(l:List Lfc.Op)(m:Nat)(ih:ResUpto F w0 Rb Mb l m)(s:List Lfc.Opd)(A:Option Addr)(c:Nat)(w:World)(hpos:0<s.length)(hm:s.length≤m+1)(hl:s.length≤1000000)(hc:s.length≤c)(hsm:Small F s)(hs:OpdsAt w0 A s)(h:EnvR w0 Rb Mb l w)(hnz:0<(Lfc.low l s).at_.length)(hsame:(Lfc.low l s).same=true)(hf:(Lfc.low l s).first.fix=3)(h1:(Lfc.low l s).at_.length≤1) :
  Calls Tryz.prog 123 #[.pointer (some ⟨Rb,0,none⟩),.slice A s.length c] w (ResPost F w0 w Rb Mb (Lfc.resP l (m+1) s)):=by
 obtain⟨b0,o0,rfl,hb0,_⟩:=hs (by intro e;rw[e] at hpos;simp at hpos)
 obtain⟨wa,hwa⟩:∃wa,w.alloc (.cells #[.int .i64 0,S [],.int .i64 0,.slice none 0 0] 46)=wa:=⟨_,rfl⟩
 have ba:Below w.heap.size w wa:=by rw[←hwa];exact(Below.refl _ _).alloc (Nat.le_refl _) _
 have qr:wa.heap[w.heap.size]?=some (.cells #[.int .i64 0,S [],.int .i64 0,.slice none 0 0] 46 (0,0)):=by rw[←hwa];exact heap_alloc_new _ _
 have hsa:=eq2 (show wa.heap.size=w.heap.size+1 by rw[←hwa];simp)
 have HE:=Lib.hid (h.new ba)
 have hrb:=h.lt
 have hrge:=h.rge
 have hs0:=h.bel.size
 have BA:=Lib.hid ba
 have QR:=Lib.hid qr
 have HS:=Lib.hid hs
 have IH:=Lib.hid ih
 have HSM:=Lib.hid hsm
 have CL:=Lib.hid (lowest_any w0 Rb Mb l s _ c wa (by omega) hs HE.out)
 have HRP:Hid (Lfc.resP l (m+1) s=Lfc.resBody l (Lfc.resP l m) s):=Lib.hid (if_neg (by omega))
 have HPL:=Lib.hid (Lfc.low_at l s)
 have HOP:Hid (∀i,i∈(Lfc.low l s).at_→∀hl:i<s.length,s[i].tree.size≤100000000∧(s[i].tree.args=[]∨F)):=Lib.hid fun i hi hl=>hsm.op hi hl
 have hz2:((s.length:Int) == 0)=false:=by simp;intro e;rw[e] at hpos;simp at hpos
 clear h ba qr hs ih hsm
 have HR0:Hid (Lfc.resP l (m+1) s=Lfc.binT (Lfc.resP l m) s (Lfc.low l s).at_ (Lfc.low l s).first.fix):=Lib.hid (by rw[HRP.out];unfold Lfc.resBody;rw[if_neg (by omega),if_neg (by simp[hsame]),if_neg (by omega),if_neg (by omega),if_neg (by omega)])
 generalize hL:Lfc.low l s=L at *
 obtain⟨at_,⟨fn,ff,fp⟩,sm⟩:=L
 simp only at hnz hsame HPL HOP CL HR0 hf h1
 clear hL
 have hnz2:((at_.length:Int) == 0)=false:=by simp;intro e;rw[e] at hnz;simp at hnz
 have h1d:decide (1<at_.length)=false:=by simpa using h1
 have h1i:(at_.length:Int)≤1:=by omega
 subst hsame hf
 go_enter Tryz.func123,Tryz.ntmps123
 go_upto_region 1 with fail
 clear hwa
 go_wp2_with fail
 refine CL.out.mono ?_
 rintro e w1⟨A1,c1,rfl,HO1,b1⟩
 have hs1:=b1.size
 unfold opV
 obtain⟨w2,hw2⟩:∃w2,w1.alloc (.cells #[S fn,.int .i64 3,.int .i64 fp] 34)=w2:=⟨_,rfl⟩
 have b2:Below w1.heap.size w1 w2:=by rw[←hw2];exact(Below.refl _ _).alloc (Nat.le_refl _) _
 have q2:w2.heap[w1.heap.size]?=some (.cells #[S fn,.int .i64 3,.int .i64 fp] 34 (0,0)):=by rw[←hw2];exact heap_alloc_new _ _
 have b12:Below wa.heap.size wa w2:=b1.trans (b2.mono hs1)
 have hs2:=b12.size
 have E2:=Lib.hid (HE.out.new b12)
 have QR2:=Lib.hid ((b12.block _ (by omega)).trans QR.out)
 have OW:=Lib.hid (Oth.of_below (T:=Rb) (BA.out.trans (b12.mono (by omega))))
 have HO2:=Lib.hid (own_below HO1.out b2)
 obtain⟨u0,u1,u2⟩:=cells3 q2
 have hu1:=lt_of_block q2
 have Q2:=Lib.hid q2
 have HW2:=Lib.hid hw2
 have hrb2:Rb<wa.heap.size:=by omega
 clear hw2 b1 b2 q2
 go_upto_region 4 with fail
 rw[HW2.out]
 have QR3:=QR2
 have OW3:=OW
 have hw3s:wa.heap.size≤w2.heap.size:=hs2
 have CB:=Lib.hid (binary_any F w0 Rb Mb l m IH.out s _ c at_ A1 c1 3 w2 hm hl hc HSM.out HS.out HPL.out HOP.out hnz (NatsAt.of_own hnz hrb2 HO2.out) E2.out)
 cases hres:Lfc.binT (Lfc.resP l m) s at_ 3 with
 |ok t =>
  rw[hres] at CB
  have HRES:Hid (Lfc.resP l (m+1) s=.ok t):=Lib.hid (by rw[HR0.out,hres])
  unfold ResPost ResOk at CB
  simp only at CB
  clear hres
  go_wp2_with fail
  refine CB.out.mono ?_
  rintro ee w5⟨v5,rfl,ht5,o5,bad5,hc5⟩
  obtain⟨k5,n5,p5,us5,A5,c5,e5,rfl,tp5⟩:=ht5.parts4
  have qr5:=o5.heap QR3.out (by omega)
  obtain⟨s1,s2,s3,s4,g1,g2,g3,g4,⟨y0,y1,y2,y3⟩,⟨f0,f1,f2,f3⟩,hq,ho⟩:=put4 qr5 (.int .i64 k5) (S n5) (.int .i64 p5) (.slice A5 us5.length c5)
  have HF:=Lib.hid (oth_fin (OW3.out.trans o5) (Below.refl _ _) ho (Nat.le_refl _) hrb hc5)
  have HO:=Lib.hid ho
  have HQ:=Lib.hid hq
  have TP5:=Lib.hid tp5
  have E5:=Lib.hid e5
  clear hq ho hc5 o5 qr5 ht5 tp5 e5
  go_wp2_with fail
  refine bodyPost_ret (results_raw2 rfl _ _ _ _ _ _ _ rfl HQ.out) rfl ?_
  rw[HRES.out]
  refine⟨_,rfl,⟨_,_,_,_,rfl,?_⟩,HF.out.1,_,HF.out.2⟩
  exact TreeP.keep (fun b hb hlt=>HO.out.block b hlt (fun e=>by have:=Option.some.inj e;rcases hb with hb | hb <;> omega)) HO.out.size (fun b _ hb=>by rcases hb with hb | hb;exact .inl hb;exact .inr (by omega)) _ _ _ _ _ TP5.out
 |error kk =>
  rw[hres] at CB
  have HRES:Hid (Lfc.resP l (m+1) s=.error kk):=Lib.hid (by rw[HR0.out,hres])
  unfold ResPost ResErr at CB
  simp only at CB
  clear hres
  go_wp2_with fail
  refine CB.out.mono ?_
  rintro ee w5⟨rfl,o5,hc5⟩
  have qr5:=o5.heap QR3.out (by omega)
  obtain⟨s1,s2,s3,s4,g1,g2,g3,g4,⟨y0,y1,y2,y3⟩,⟨f0,f1,f2,f3⟩,hq,ho⟩:=put4 qr5 (.int .i64 0) (S []) (.int .i64 0) (.slice none 0 0)
  have HF:=Lib.hid (oth_fin (OW3.out.trans o5) (Below.refl _ _) ho (Nat.le_refl _) hrb hc5)
  have HQ:=Lib.hid hq
  clear hq ho hc5 o5 qr5
  go_wp2_with fail
  refine bodyPost_ret (results_raw2 rfl _ _ _ _ _ _ _ rfl HQ.out) rfl ?_
  rw[HRES.out]
  exact⟨rfl,HF.out.1,HF.out.2⟩
set_option maxRecDepth 100000 in
set_option maxHeartbeats 4000000 in
theorem res_binx(F:Prop)(w0:World)(Rb Mb:Nat)(l:List Lfc.Op)(m:Nat)(ih:ResUpto F w0 Rb Mb l m)(s:List Lfc.Opd)(A:Option Addr)(c:Nat)(w:World)(hpos:0<s.length)(hm:s.length≤m+1)(hl:s.length≤1000000)(hc:s.length≤c)(hsm:Small F s)(hs:OpdsAt w0 A s)(h:EnvR w0 Rb Mb l w)(hnz:0<(Lfc.low l s).at_.length)(hsame:(Lfc.low l s).same=true)(hf:(Lfc.low l s).first.fix≠1∧(Lfc.low l s).first.fix≠2∧(Lfc.low l s).first.fix≠3) :
  Calls Tryz.prog 123 #[.pointer (some ⟨Rb,0,none⟩),.slice A s.length c] w (ResPost F w0 w Rb Mb (Lfc.resP l (m+1) s)):=by
 obtain⟨b0,o0,rfl,hb0,_⟩:=hs (by intro e;rw[e] at hpos;simp at hpos)
 obtain⟨wa,hwa⟩:∃wa,w.alloc (.cells #[.int .i64 0,S [],.int .i64 0,.slice none 0 0] 46)=wa:=⟨_,rfl⟩
 have ba:Below w.heap.size w wa:=by rw[←hwa];exact(Below.refl _ _).alloc (Nat.le_refl _) _
 have qr:wa.heap[w.heap.size]?=some (.cells #[.int .i64 0,S [],.int .i64 0,.slice none 0 0] 46 (0,0)):=by rw[←hwa];exact heap_alloc_new _ _
 have hsa:=eq2 (show wa.heap.size=w.heap.size+1 by rw[←hwa];simp)
 have HE:=Lib.hid (h.new ba)
 have hrb:=h.lt
 have hrge:=h.rge
 have hs0:=h.bel.size
 have BA:=Lib.hid ba
 have QR:=Lib.hid qr
 have HS:=Lib.hid hs
 have IH:=Lib.hid ih
 have HSM:=Lib.hid hsm
 have CL:=Lib.hid (lowest_any w0 Rb Mb l s _ c wa (by omega) hs HE.out)
 have HRP:Hid (Lfc.resP l (m+1) s=Lfc.resBody l (Lfc.resP l m) s):=Lib.hid (if_neg (by omega))
 have HPL:=Lib.hid (Lfc.low_at l s)
 have HOP:Hid (∀i,i∈(Lfc.low l s).at_→∀hl:i<s.length,s[i].tree.size≤100000000∧(s[i].tree.args=[]∨F)):=Lib.hid fun i hi hl=>hsm.op hi hl
 have hz2:((s.length:Int) == 0)=false:=by simp;intro e;rw[e] at hpos;simp at hpos
 clear h ba qr hs ih hsm
 have HR0:Hid (Lfc.resP l (m+1) s=Lfc.binT (Lfc.resP l m) s (Lfc.low l s).at_ (Lfc.low l s).first.fix):=Lib.hid (by rw[HRP.out];unfold Lfc.resBody;rw[if_neg (by omega),if_neg (by simp[hsame]),if_neg hf.1,if_neg hf.2.1,if_neg (fun e=>hf.2.2 e.1)])
 generalize hL:Lfc.low l s=L at *
 obtain⟨at_,⟨fn,ff,fp⟩,sm⟩:=L
 simp only at hnz hsame HPL HOP CL HR0 hf
 clear hL
 have hnz2:((at_.length:Int) == 0)=false:=by simp;intro e;rw[e] at hnz;simp at hnz
 have hf1:(ff == 1)=false:=by simpa using hf.1
 have hf2:(ff == 2)=false:=by simpa using hf.2.1
 have hf3:(ff == 3)=false:=by simpa using hf.2.2
 subst hsame
 clear hf
 go_enter Tryz.func123,Tryz.ntmps123
 go_upto_region 1 with fail
 clear hwa
 go_wp2_with fail
 refine CL.out.mono ?_
 rintro e w1⟨A1,c1,rfl,HO1,b1⟩
 have hs1:=b1.size
 unfold opV
 obtain⟨w2,hw2⟩:∃w2,w1.alloc (.cells #[S fn,.int .i64 ff,.int .i64 fp] 34)=w2:=⟨_,rfl⟩
 have b2:Below w1.heap.size w1 w2:=by rw[←hw2];exact(Below.refl _ _).alloc (Nat.le_refl _) _
 have q2:w2.heap[w1.heap.size]?=some (.cells #[S fn,.int .i64 ff,.int .i64 fp] 34 (0,0)):=by rw[←hw2];exact heap_alloc_new _ _
 have b12:Below wa.heap.size wa w2:=b1.trans (b2.mono hs1)
 have hs2:=b12.size
 have E2:=Lib.hid (HE.out.new b12)
 have QR2:=Lib.hid ((b12.block _ (by omega)).trans QR.out)
 have OW:=Lib.hid (Oth.of_below (T:=Rb) (BA.out.trans (b12.mono (by omega))))
 have HO2:=Lib.hid (own_below HO1.out b2)
 obtain⟨u0,u1,u2⟩:=cells3 q2
 have hu1:=lt_of_block q2
 have Q2:=Lib.hid q2
 have HW2:=Lib.hid hw2
 have hrb2:Rb<wa.heap.size:=by omega
 clear hw2 b1 b2 q2
 go_upto_region 4 with fail
 rw[HW2.out]
 have QR3:=QR2
 have OW3:=OW
 have hw3s:wa.heap.size≤w2.heap.size:=hs2
 have CB:=Lib.hid (binary_any F w0 Rb Mb l m IH.out s _ c at_ A1 c1 ff w2 hm hl hc HSM.out HS.out HPL.out HOP.out hnz (NatsAt.of_own hnz hrb2 HO2.out) E2.out)
 cases hres:Lfc.binT (Lfc.resP l m) s at_ ff with
 |ok t =>
  rw[hres] at CB
  have HRES:Hid (Lfc.resP l (m+1) s=.ok t):=Lib.hid (by rw[HR0.out,hres])
  unfold ResPost ResOk at CB
  simp only at CB
  clear hres
  go_wp2_with fail
  refine CB.out.mono ?_
  rintro ee w5⟨v5,rfl,ht5,o5,bad5,hc5⟩
  obtain⟨k5,n5,p5,us5,A5,c5,e5,rfl,tp5⟩:=ht5.parts4
  have qr5:=o5.heap QR3.out (by omega)
  obtain⟨s1,s2,s3,s4,g1,g2,g3,g4,⟨y0,y1,y2,y3⟩,⟨f0,f1,f2,f3⟩,hq,ho⟩:=put4 qr5 (.int .i64 k5) (S n5) (.int .i64 p5) (.slice A5 us5.length c5)
  have HF:=Lib.hid (oth_fin (OW3.out.trans o5) (Below.refl _ _) ho (Nat.le_refl _) hrb hc5)
  have HO:=Lib.hid ho
  have HQ:=Lib.hid hq
  have TP5:=Lib.hid tp5
  have E5:=Lib.hid e5
  clear hq ho hc5 o5 qr5 ht5 tp5 e5
  go_wp2_with fail
  refine bodyPost_ret (results_raw2 rfl _ _ _ _ _ _ _ rfl HQ.out) rfl ?_
  rw[HRES.out]
  refine⟨_,rfl,⟨_,_,_,_,rfl,?_⟩,HF.out.1,_,HF.out.2⟩
  exact TreeP.keep (fun b hb hlt=>HO.out.block b hlt (fun e=>by have:=Option.some.inj e;rcases hb with hb | hb <;> omega)) HO.out.size (fun b _ hb=>by rcases hb with hb | hb;exact .inl hb;exact .inr (by omega)) _ _ _ _ _ TP5.out
 |error kk =>
  rw[hres] at CB
  have HRES:Hid (Lfc.resP l (m+1) s=.error kk):=Lib.hid (by rw[HR0.out,hres])
  unfold ResPost ResErr at CB
  simp only at CB
  clear hres
  go_wp2_with fail
  refine CB.out.mono ?_
  rintro ee w5⟨rfl,o5,hc5⟩
  have qr5:=o5.heap QR3.out (by omega)
  obtain⟨s1,s2,s3,s4,g1,g2,g3,g4,⟨y0,y1,y2,y3⟩,⟨f0,f1,f2,f3⟩,hq,ho⟩:=put4 qr5 (.int .i64 0) (S []) (.int .i64 0) (.slice none 0 0)
  have HF:=Lib.hid (oth_fin (OW3.out.trans o5) (Below.refl _ _) ho (Nat.le_refl _) hrb hc5)
  have HQ:=Lib.hid hq
  clear hq ho hc5 o5 qr5
  go_wp2_with fail
  refine bodyPost_ret (results_raw2 rfl _ _ _ _ _ _ _ rfl HQ.out) rfl ?_
  rw[HRES.out]
  exact⟨rfl,HF.out.1,HF.out.2⟩
structure AppI(F:Prop)(w0 w2:World)(O:Nat)(t:Lfc.Raw)(k p:Int)(n:List UInt8)(us:List Lfc.Raw)(A:Option Addr)(c:Nat)(wr:World):Prop where
 bel:Below w2.heap.size w2 wr
 oge:w2.heap.size≤O
 out:wr.heap[O]?=some (.cells #[.int .i64 k,S n,.int .i64 p,.slice A us.length c] 46 (0,0))
 tree:TreeP (fun b=>(b<w0.heap.size∧F)∨(w2.heap.size≤b∧b≠O)) wr t (.int .i64 k) (S n) (.int .i64 p) (.slice A us.length c)
theorem AppI.next{F:Prop}{w0 w2 wr w5 s4:World}{O:Nat}{t t5:Lfc.Raw}{k p k5 p5:Int}{n n5:List UInt8}{us us5:List Lfc.Raw}{A A5:Option Addr}{c c5:Nat}(h0:w0.heap.size≤w2.heap.size)
  (h:AppI F w0 w2 O t k p n us A c wr) (b5:Below wr.heap.size wr w5) (h5:TreeP (fun b=>((b<w0.heap.size∧F)∨(w2.heap.size≤b∧b≠O))∨wr.heap.size≤b) w5 t5 (.int .i64 k5) (S n5) (.int .i64 p5) (.slice A5 us5.length c5))
  (hq:s4.heap[O]?=some (.cells #[.int .i64 k5,S n5,.int .i64 p5,.slice A5 us5.length c5] 46 (0,0))) (ho:Oth O w5 s4):AppI F w0 w2 O t5 k5 p5 n5 us5 A5 c5 s4:=by
 have hO:=lt_of_block h.out
 have hs5:=b5.size
 have hs4:=ho.size
 have hsr:=h.bel.size
 have hge:=h.oge
 refine⟨Oth.below (h.bel.trans (b5.mono hsr)) ho hge (by omega),hge,hq,?_⟩
 refine TreeP.keep (fun b hb hlt=>ho.block b hlt (fun e=>?_)) hs4 (fun b _ hb=>?_) _ _ _ _ _ h5
 ·have:=Option.some.inj e
  rcases hb with(hb | hb) | hb
  ·omega
  ·exact hb.2 this
  ·omega
 ·rcases hb with hb | hb
  ·exact hb
  ·exact .inr ⟨by omega,by omega⟩
theorem appAll_eq(s:List Lfc.Opd)(hp:0<s.length):Lfc.appAll s=(s.drop 1).foldl (fun t x=>Lfc.appT t x.tree) s[0].tree:=by
 unfold Lfc.appAll
 simp[hp]
theorem fold_step(rs:List Lfc.Opd)(t:Lfc.Raw)(j:Nat)(h:j<rs.length):(rs.take (j+1)).foldl (fun t x=>Lfc.appT t x.tree) t=Lfc.appT ((rs.take j).foldl (fun t x=>Lfc.appT t x.tree) t) rs[j].tree:=by
 rw[List.take_succ_eq_append_getElem h,List.foldl_append]
 rfl
set_option maxRecDepth 100000 in
set_option maxHeartbeats 4000000 in
theorem res_app(F:Prop)(w0:World)(Rb Mb:Nat)(l:List Lfc.Op)(m:Nat)(ih:ResUpto F w0 Rb Mb l m)(s:List Lfc.Opd)(A:Option Addr)(c:Nat)(w:World)(hpos:0<s.length)(hm:s.length≤m+1)(hl:s.length≤1000000)(hc:s.length≤c)(hsm:Small F s)(hs:OpdsAt w0 A s)(h:EnvR w0 Rb Mb l w)(h0:(Lfc.low l s).at_.length=0) :
  Calls Tryz.prog 123 #[.pointer (some ⟨Rb,0,none⟩),.slice A s.length c] w (ResPost F w0 w Rb Mb (Lfc.resP l (m+1) s)):=by
 obtain⟨b0,o0,rfl,hb0,_⟩:=hs (by intro e;rw[e] at hpos;simp at hpos)
 obtain⟨wa,hwa⟩:∃wa,w.alloc (.cells #[.int .i64 0,S [],.int .i64 0,.slice none 0 0] 46)=wa:=⟨_,rfl⟩
 have ba:Below w.heap.size w wa:=by rw[←hwa];exact(Below.refl _ _).alloc (Nat.le_refl _) _
 have qr:wa.heap[w.heap.size]?=some (.cells #[.int .i64 0,S [],.int .i64 0,.slice none 0 0] 46 (0,0)):=by rw[←hwa];exact heap_alloc_new _ _
 have hsa:=eq2 (show wa.heap.size=w.heap.size+1 by rw[←hwa];simp)
 have HE:=Lib.hid (h.new ba)
 have hrb:=h.lt
 have hrge:=h.rge
 have hs0:=h.bel.size
 have BA:=Lib.hid ba
 have QR:=Lib.hid qr
 have HS:=Lib.hid hs
 have IH:=Lib.hid ih
 have HSM:=Lib.hid hsm
 have CL:=Lib.hid (lowest_any w0 Rb Mb l s _ c wa (by omega) hs HE.out)
 have HRP:Hid (Lfc.resP l (m+1) s=Lfc.resBody l (Lfc.resP l m) s):=Lib.hid (if_neg (by omega))
 have HPL:=Lib.hid (Lfc.low_at l s)
 have hz2:((s.length:Int) == 0)=false:=by simp;intro e;rw[e] at hpos;simp at hpos
 clear h ba qr hs ih hsm
 have HRES0:Hid (Lfc.resP l (m+1) s=.ok (Lfc.appAll s)):=Lib.hid (by rw[HRP.out];unfold Lfc.resBody;rw[if_pos h0])
 generalize hL:Lfc.low l s=L at *
 obtain⟨at_,⟨fn,ff,fp⟩,sm⟩:=L
 simp only at h0 HPL CL
 obtain rfl:=List.length_eq_zero_iff.1 h0
 simp only[List.length_nil] at *
 clear hL h0
 go_enter Tryz.func123,Tryz.ntmps123
 go_upto_region 1 with fail
 clear hwa
 go_wp2_with fail
 refine CL.out.mono ?_
 rintro e w1⟨A1,c1,rfl,HO1,b1⟩
 have hs1:=b1.size
 unfold opV
 obtain⟨w2,hw2⟩:∃w2,w1.alloc (.cells #[S fn,.int .i64 ff,.int .i64 fp] 34)=w2:=⟨_,rfl⟩
 have b2:Below w1.heap.size w1 w2:=by rw[←hw2];exact(Below.refl _ _).alloc (Nat.le_refl _) _
 have q2:w2.heap[w1.heap.size]?=some (.cells #[S fn,.int .i64 ff,.int .i64 fp] 34 (0,0)):=by rw[←hw2];exact heap_alloc_new _ _
 have b12:Below wa.heap.size wa w2:=b1.trans (b2.mono hs1)
 have hs2:=b12.size
 have E2:=Lib.hid (HE.out.new b12)
 have QR2:=Lib.hid ((b12.block _ (by omega)).trans QR.out)
 have OW:=Lib.hid (Oth.of_below (T:=Rb) (BA.out.trans (b12.mono (by omega))))
 have HO2:=Lib.hid (own_below HO1.out b2)
 obtain⟨u0,u1,u2⟩:=cells3 q2
 have hu1:=lt_of_block q2
 have Q2:=Lib.hid q2
 have HW2:=Lib.hid hw2
 have hrb2:Rb<wa.heap.size:=by omega
 clear hw2 b1 b2 q2
 go_upto_region 4 with fail
 rw[HW2.out]
 have QR3:=QR2
 have OW3:=OW
 have hw3s:wa.heap.size≤w2.heap.size:=hs2
 obtain⟨b0',o0',k1,n1,p1,us1,B1,cc1,hA0,_,hnd,e0,e1,e2,e3,e4,hT1⟩:=HS.out.at_ hpos
 cases hA0
 simp only[Nat.zero_mul,Nat.add_zero] at e0 e1 e2 e3 e4
 have bel:=E2.out.bel
 have d0:=(bel.cell (p:=⟨b0,_,none⟩) hb0).trans e0
 have d1:=(bel.cell (p:=⟨b0,_,none⟩) hb0).trans e1
 have d2:=(bel.cell (p:=⟨b0,_,none⟩) hb0).trans e2
 have d3:=(bel.cell (p:=⟨b0,_,none⟩) hb0).trans e3
 have hsx:=HSM.out s[0] (List.getElem_mem _)
 have hT2:TreeVP (fun b=>b<w0.heap.size∧True) w2 s[0].tree (.agg #[.int .i64 k1,S n1,.int .i64 p1,.slice B1 us1.length cc1]):=by
  rw[hnd]
  obtain⟨v0,v1,v2,v3,ev,hp⟩:=TreeV.toF (F:=True) (.inr trivial) hT1
  exact⟨v0,v1,v2,v3,ev,TreeP.keep (fun b hb _=>bel.block b hb.1) bel.size (fun _ _ h=>h) _ _ _ _ _ hp⟩
 have CC:=Lib.hid (clone_weak (fun b=>b<w0.heap.size∧F) 100000000 (Nat.le_refl _) s[0].tree _ w2 _ hsx.1 hT2)
 have HAA:=Lib.hid (appAll_eq s hpos)
 obtain⟨A3,c3,hsl,hA3,hc3⟩:=slice_from hpos hc HS.out
 have hrm:∀y∈s.drop 1,y∈s:=fun y hy=>List.mem_of_mem_drop hy
 have hrl:(s.drop 1).length≤1000000:=by rw[List.length_drop];omega
 obtain⟨rs,hrs⟩:∃rs,s.drop 1=rs:=⟨_,rfl⟩
 rw[hrs] at hsl hA3 hc3 hrm HAA hrl
 have hposi:(0:Int)<(s.length:Int):=by omega
 have HA3:=Lib.hid hA3
 have HRM:=Lib.hid hrm
 generalize s[0].tree=tz at *
 clear hrs e0 e1 e2 e3 e4 hT1 hT2 hnd hA3 hrm bel
 go_wp2_with fail
 refine CC.out.mono ?_
 rintro ee w3⟨⟨v3,rfl,hv3⟩,b3⟩
 obtain⟨k,n,p,us,Ao,co,ez,rfl,tpz⟩:=hv3.parts4
 have hs3:=b3.size
 obtain⟨w4,hw4⟩:∃w4,w3.alloc (.cells #[.int .i64 k,S n,.int .i64 p,.slice Ao us.length co] 46)=w4:=⟨_,rfl⟩
 have b4:Below w3.heap.size w3 w4:=by rw[←hw4];exact(Below.refl _ _).alloc (Nat.le_refl _) _
 have q4:w4.heap[w3.heap.size]?=some (.cells #[.int .i64 k,S n,.int .i64 p,.slice Ao us.length co] 46 (0,0)):=by rw[←hw4];exact heap_alloc_new _ _
 have I0:Hid (AppI F w0 w2 w3.heap.size tz k p n us Ao co w4):=Lib.hid ⟨b3.trans (b4.mono hs3),hs3,q4,TreeP.keep (fun b _ hlt=>b4.block b hlt) b4.size (fun b hlt hb=>by rcases hb with hb | hb;exact .inl hb;exact .inr ⟨hb,by omega⟩) _ _ _ _ _ tpz⟩
 have HW4:=Lib.hid hw4
 clear hv3 b3 tpz ez hw4 q4 b4 d0 d1 d2 d3
 go_upto_region 6 with fail
 rw[HW4.out]
 go_wp2_with fail
 generalize w3.heap.size=O at *
 go_loopw [38] (fun i wr=>∃(j:Nat)(t:Lfc.Raw)(k p:Int)(n:List UInt8)(us:List Lfc.Raw)(Ao:Option Addr)(co:Nat),i=.int .i64 j∧j≤rs.length∧Hid (AppI F w0 w2 O t k p n us Ao co wr)∧Hid (t=(rs.take j).foldl (fun t x=>Lfc.appT t x.tree) tz)) (fun i _=>rs.length-(intOf i).toNat)
 case atStart=>exact⟨0,tz,k,p,n,us,Ao,co,rfl,Nat.zero_le _,I0,Lib.hid (by simp)⟩
 case round =>
  clear I0 HW4
  obtain⟨j,t,k,p,n,us,Ao,co,rfl,hj,HJ,HT⟩:=hrel
  have hO:=lt_of_block HJ.out.out
  have hge:=HJ.out.oge
  have hsr:=HJ.out.bel.size
  have hs02:=E2.out.bel.size
  by_cases hlt:j<rs.length
  ·have HST:=Lib.hid (fold_step rs tz j hlt)
   have bel:Below w0.heap.size w0 wr:=E2.out.bel.trans (HJ.out.bel.mono hs02)
   obtain⟨bb,ob,kx,nx,px,ux,Bx,cx,rfl,hbb,hndx,e0,e1,e2,e3,e4,hTx⟩:=HA3.out.at_ hlt
   have d0:=(bel.cell (p:=⟨bb,_,none⟩) hbb).trans e0
   have d1:=(bel.cell (p:=⟨bb,_,none⟩) hbb).trans e1
   have d2:=(bel.cell (p:=⟨bb,_,none⟩) hbb).trans e2
   have d3:=(bel.cell (p:=⟨bb,_,none⟩) hbb).trans e3
   have d4:=(bel.cell (p:=⟨bb,_,none⟩) hbb).trans e4
   have hsx:=HSM.out rs[j] (HRM.out _ (List.getElem_mem _))
   obtain⟨w5,hw5⟩:∃w5,wr.alloc (.cells #[.int .i64 kx,S nx,.int .i64 px,.slice Bx ux.length cx,.bool rs[j].closed] 129)=w5:=⟨_,rfl⟩
   have b5:Below wr.heap.size wr w5:=by rw[←hw5];exact(Below.refl _ _).alloc (Nat.le_refl _) _
   have q5:w5.heap[wr.heap.size]?=some (.cells #[.int .i64 kx,S nx,.int .i64 px,.slice Bx ux.length cx,.bool rs[j].closed] 129 (0,0)):=by rw[←hw5];exact heap_alloc_new _ _
   have hs5:=b5.size
   have qo5:=(b5.block _ hO).trans HJ.out.out
   have hTd:TreeVP (fun b=>b<w0.heap.size∧True) w5.drew rs[j].tree (.agg #[.int .i64 kx,S nx,.int .i64 px,.slice Bx ux.length cx]):=by
    rw[hndx]
    obtain⟨v0,v1,v2,v3,ev,hp⟩:=TreeV.toF (F:=True) (.inr trivial) hTx
    exact⟨v0,v1,v2,v3,ev,TreeP.keep (w':=w5.drew) (fun b hb _=>(b5.block b (by have:=hb.1;omega)).trans (bel.block b hb.1)) (Nat.le_trans bel.size b5.size) (fun b _ hb=>hb) _ _ _ _ _ hp⟩
   have CC:=Lib.hid (clone_weak (fun b=>(b<w0.heap.size∧F)∨(w2.heap.size≤b∧b≠O)) 100000000 (Nat.le_refl _) rs[j].tree _ w5.drew _ hsx.1 hTd)
   obtain⟨x0,x1,x2,x3⟩:=cells4 qo5
   have z0:w5.cell? ⟨wr.heap.size,0,none⟩=some (.int .i64 kx):=Lib.cell_of_heap q5 0
   have z1:w5.cell? ⟨wr.heap.size,1,none⟩=some (S nx):=Lib.cell_of_heap q5 1
   have z2:w5.cell? ⟨wr.heap.size,2,none⟩=some (.int .i64 px):=Lib.cell_of_heap q5 2
   have z3:w5.cell? ⟨wr.heap.size,3,none⟩=some (.slice Bx ux.length cx):=Lib.cell_of_heap q5 3
   have QO5:=Lib.hid qo5
   have B5:=Lib.hid b5
   have HW5:=Lib.hid hw5
   have hi0:(0:Int)≤(j:Int):=Int.natCast_nonneg _
   have hi1:(j:Int)<(rs.length:Int):=by omega
   have hO5:=lt_of_block qo5
   generalize hcl:rs[j].closed=cl at *
   clear e0 e1 e2 e3 e4 hTx hTd hndx bel b5 q5 qo5 hw5 hcl
   go_upto_region 9 with fail
   rw[HW5.out]
   clear d0 d1 d2 d3 d4 hsl
   go_region_law (first
    |(go_simp;go_at_call 122;refine CC.out.mono ?_;rintro ee w6⟨⟨v6,rfl,hv6⟩,b6⟩;have q6:=(b6.block _ hO5).trans QO5.out;obtain⟨m0,m1,m2,m3⟩:=cells4 q6;have V6:=Lib.hid hv6;have B6:=Lib.hid (show Below w5.heap.size w5 w6 from(Below.refl w5.heap.size w5).drew.trans b6);have Q6:=Lib.hid q6;clear hv6 b6 q6)
    |(go_simp;go_at_call 169;refine(apply_any t rs[j].tree _ _ w6 (fun b=>((b<w0.heap.size∧F)∨(w2.heap.size≤b∧b≠O))∨w5.drew.heap.size≤b) ⟨_,_,_,_,rfl,TreeP.keep (fun b _ hlt=>(B6.out.block b (Nat.lt_of_lt_of_le hlt hs5)).trans (B5.out.block b hlt)) (Nat.le_trans hs5 B6.out.size) (fun b _ hb=>.inl hb) _ _ _ _ _ HJ.out.tree⟩ V6.out).mono ?_;rintro ee w7⟨⟨v7,rfl,hv7⟩,b7⟩;obtain⟨k7,n7,p7,us7,A7,c7,e7,rfl,tp7⟩:=hv7.parts4;have q7:=(b7.block _ (lt_of_block Q6.out)).trans Q6.out;obtain⟨s1,s2,s3,s4,g1,g2,g3,g4,⟨y0,y1,y2,y3⟩,⟨f0,f1,f2,f3⟩,hq,ho⟩:=put4 q7 (.int .i64 k7) (S n7) (.int .i64 p7) (.slice A7 us7.length c7);have hz6:=B6.out.size;have hz5:wr.heap.size≤w5.drew.heap.size:=hs5;have HN:=Lib.hid (HJ.out.next (by omega) (B5.out.trans ((B6.out.mono hs5).trans (b7.mono (by omega)))) (TreeP.keep (fun _ _ _=>rfl) (Nat.le_refl _) (fun b _ hb=>by rcases hb with(hb | hb) | hb;exact .inl hb;exact .inr (by omega);exact .inr (by omega)) _ _ _ _ _ tp7) hq ho);clear hv7 tp7 e7 q7 hq ho b7))
   all_goals
    have HT2:Hid (Lfc.appT t rs[j].tree=(rs.take (j+1)).foldl (fun t x=>Lfc.appT t x.tree) tz):=Lib.hid (by rw[HST.out,HT.out])
    go_wp2_with fail
    go_roundw
    case rel=>exact⟨j+1,_,_,_,_,_,_,_,by go_num,by omega,HN,HT2⟩
    case measure=>simp[intOf];omega
  ·have HRES:Hid (Lfc.resP l (m+1) s=.ok t):=Lib.hid (by rw[HRES0.out,HAA.out,HT.out,List.take_of_length_le (by omega)])
   obtain⟨x0,x1,x2,x3⟩:=cells4 HJ.out.out
   have qr:=(HJ.out.bel.block _ (by omega)).trans QR2.out
   obtain⟨s1,s2,s3,s4,g1,g2,g3,g4,⟨y0,y1,y2,y3⟩,⟨f0,f1,f2,f3⟩,hq,ho⟩:=put4 qr (.int .i64 k) (S n) (.int .i64 p) (.slice Ao us.length co)
   obtain⟨bad,hcb⟩:=(E2.out.new HJ.out.bel).cells
   have HF:=Lib.hid (oth_fin (OW.out.trans (Oth.of_below HJ.out.bel)) (Below.refl _ _) ho (Nat.le_refl _) hrb hcb)
   have HO:=Lib.hid ho
   have HQ:=Lib.hid hq
   clear hq ho hcb qr hsl
   go_wp2_with fail
   refine bodyPost_ret (results_raw2 rfl _ _ _ _ _ _ _ rfl HQ.out) rfl ?_
   rw[HRES.out]
   refine⟨_,rfl,⟨_,_,_,_,rfl,?_⟩,HF.out.1,_,HF.out.2⟩
   exact TreeP.keep (fun b hb hlt=>HO.out.block b hlt (fun e=>by have:=Option.some.inj e;rcases hb with hb | hb;omega;have:=hb.1;omega)) HO.out.size (fun b _ hb=>by rcases hb with hb | hb;exact .inl hb;exact .inr (by have:=hb.1;omega)) _ _ _ _ _ HJ.out.tree
end Go.Proofs.YthajalgkjonaaaaGreatDoor
