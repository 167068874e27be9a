/- Parts of the proof that no input makes the law false: RawRSame,Names,RawFormed,RawWf,RawRForm,RawWf2,RawNames,Build. -/
import Derived.Deep.DeepCutAuto
import Derived.Deep.CutBlock
import Derived.RegionTactic
import Derived.Laws.EntriesVeiled
import Derived.Shelf.Strings.BuilderK
import Derived.Test.YthajalgkjonaaaaGreatDoorShelf
import Derived.Test.YthajalgkjonaaaaGreatDoorQxAB
import Derived.Test.YthajalgkjonaaaaGreatDoorQxAE
set_option linter.unusedVariables false
set_option linter.unusedSimpArgs false
namespace Go.Proofs.YthajalgkjonaaaaGreatDoor
open Go.RowKit
theorem kept{w w1:World}{p:Addr}{v:Value}(h:Below w.drew.heap.size w.drew w1)(hp:p.block<w.heap.size)(hv:w.cell? p=some v):w1.cell? p=some v:=(h.cell hp).trans hv
set_option maxRecDepth 100000 in
set_option maxHeartbeats 2000000 in
theorem rSame_aux(at_ aa:Bool)(haa:aa=at_)(m:Nat)(hmm:m≤1000000000):∀(t u:Lfc.Raw)(v v':Value)(w:World),t.size≤m→TreeV w t v→TreeV w u v' →
  Calls Tryz.prog 17 #[v,v',.bool at_] w fun e w'=>e=.returned (.bool (Lfc.Raw.same aa t u))∧Below w.heap.size w w':=by
 induction m with
 |zero=>intro t u v v' w h _ _;have:=t.size_pos;omega
 | succ m ih =>
  intro t u v v' w hsz hv hv'
  obtain⟨kd,nm,ps,ts⟩:=t
  obtain⟨kd',nm',ps',us⟩:=u
  obtain⟨A,c,rfl,hc,hA⟩:=hv.open_
  obtain⟨A',c',rfl,hc',hA'⟩:=hv'.open_
  simp only[Lfc.Raw.size] at hsz
  have hlen:=Lfc.Raw.sizes_len ts
  obtain⟨w0,hw0⟩:∃w0,(w.alloc (.cells #[.int .i64 kd,S nm,.int .i64 ps,.slice A ts.length c] 46)).alloc (.cells #[.int .i64 kd',S nm',.int .i64 ps',.slice A' us.length c'] 46)=w0:=⟨_,rfl⟩
  have b0:Below w.heap.size w w0:=by rw[←hw0];exact((Below.refl _ _).alloc (Nat.le_refl _) _).alloc (by simp) _
  have s0:w.heap.size+1<w0.heap.size:=by rw[←hw0];simp
  have hx1:w0.cell? ⟨w.heap.size,3,none⟩=some (.slice A ts.length c):=by rw[←hw0];simp
  have hx2:w0.cell? ⟨w.heap.size+1,3,none⟩=some (.slice A' us.length c'):=by
   rw[←hw0]
   have:=cells_new (w.alloc (.cells #[.int .i64 kd,S nm,.int .i64 ps,.slice A ts.length c] 46)) (w.heap.size+1) (by simp) [.int .i64 kd',S nm',.int .i64 ps',.slice A' us.length c'] 46 3 _ rfl
   rw[addr_add] at this
   exact this
  have IH:=Lib.hid (ih (by omega))
  have HA:=Lib.hid (hA.below b0)
  have HA':=Lib.hid (hA'.below b0)
  have HX1:=Lib.hid hx1
  have HX2:=Lib.hid hx2
  have hsame:Lfc.Raw.same aa (.node kd nm ps ts) (.node kd' nm' ps' us)=(decide (kd=kd') && decide (nm=nm') && (!aa || decide (ps=ps')) && Lfc.Raw.sames aa ts us):=by
   rw[Lfc.Raw.same]
  have HW0:=Lib.hid hw0
  clear ih hA hA' hv hv' hx1 hx2 hw0
  by_cases h1:kd=kd'∧nm=nm'∧(at_=true→ps=ps')∧ts.length=us.length
  ·obtain⟨h1,h2,h3,hl⟩:=h1
   have g1:((kd:Int) != kd')=false:=by simp[h1]
   have g2:(nm == nm')=true:=by simp[h2]
   have g3:((ts.length:Int) != (us.length:Int))=false:=by simp;omega
   have g4:at_=true→((ps:Int) != ps')=false:=fun h=>by simp[h3 h]
   have hps:(!aa || decide (ps=ps'))=true:=by
    cases aa
    ·rfl
    ·simp[h3 haa.symm]
   rw[hsame,decide_eq_true h1,decide_eq_true h2,hps,Bool.true_and,Bool.true_and,Bool.true_and]
   have HS:=Lib.hid (sames_spec aa ts us)
   have HF:=Lib.hid (sames_false aa ts us)
   have HL:=Lib.hid hl
   generalize Lfc.Raw.sames aa ts us=res at *
   clear hsame h1 h2 h3 hps hl
   have HAA:=Lib.hid haa
   clear haa
   have hat:at_=false∨(at_=true∧((ps:Int) != ps')=false):=by
    cases at_
    ·exact .inl rfl
    ·exact .inr ⟨rfl,g4 rfl⟩
   clear g4
   rcases hat with rfl | ⟨rfl,g4⟩
   all_goals
    go_enter Tryz.func17,Tryz.ntmps17
    go_wp2_with fail
    rw[HW0.out]
    generalize hG:w.heap.size=G at *
    have HGG:=Lib.hid hG
    clear hG
    go_loopw [7] (fun i wr=>∃k:Nat,k≤ts.length∧i=.int .i64 k∧Below w0.heap.size w0 wr∧Hid (∀j(h:j<ts.length)(h':j<us.length),j<k→Lfc.Raw.same aa ts[j] us[j]=true)) (fun i _=>ts.length-(intOf i).toNat)
    case atStart=>exact⟨0,by omega,rfl,Below.refl _ _,Lib.hid fun j _ _ hj=>by omega⟩
    case round =>
     obtain⟨k,hk,rfl,hbw,hp⟩:=hrel
     have hbx1:wr.cell? ⟨G,3,none⟩=some (.slice A ts.length c):=(hbw.cell (p:=⟨G,3,none⟩) (by simp only;omega)).trans HX1.out
     by_cases hlt:k<ts.length
     ·have hlt':k<us.length:=by have:=HL.out;omega
      have hbx2:wr.cell? ⟨G+1,3,none⟩=some (.slice A' us.length c'):=(hbw.cell (p:=⟨G+1,3,none⟩) s0).trans HX2.out
      obtain⟨b,o,k1,n1,p1,xs,B,c1,rfl,hb,ht,d0,d1,d2,d3,hcu,hB,hT⟩:=(HA.out.below hbw).at_ hlt
      obtain⟨b',o',k2,n2,p2,ys,B',c2,rfl,hb',ht',e0,e1,e2,e3,hcu',hB',hT'⟩:=(HA'.out.below hbw).at_ hlt'
      have hmem:=Lfc.Raw.sizes_mem ts ts[k] (List.getElem_mem _)
      clear hB hB' ht ht'
      have hk0:(0:Int)≤(k:Int):=Int.natCast_nonneg _
      have hk1:(k:Int)<(ts.length:Int):=by omega
      have hk2:(k:Int)<(us.length:Int):=by omega
      have b1:Below wr.heap.size wr wr.drew:=(Below.refl _ _).drew
      have hws:=hbw.size
      cases hq:Lfc.Raw.same aa ts[k] us[k]
      ·have hres:=HF.out k hlt hlt' hq
       subst hres
       have HQ:=Lib.hid hq
       clear hq
       go_wp2_with fail
       go_region_held3 (fun w'=>w'.cell? ⟨G,3,none⟩=some (.slice (some ⟨b,o,none⟩) ts.length c)∧w'.cell? ⟨G+1,3,none⟩=some (.slice (some ⟨b',o',none⟩) us.length c') ∧
         w'.cell? ⟨b,o+k*4,none⟩=some (.int .i64 k1)∧w'.cell? ⟨b,o+k*4+1,none⟩=some (S n1)∧w'.cell? ⟨b,o+k*4+2,none⟩=some (.int .i64 p1)∧w'.cell? ⟨b,o+k*4+3,none⟩=some (.slice B xs.length c1) ∧
         w'.cell? ⟨b',o'+k*4,none⟩=some (.int .i64 k2)∧w'.cell? ⟨b',o'+k*4+1,none⟩=some (S n2)∧w'.cell? ⟨b',o'+k*4+2,none⟩=some (.int .i64 p2)∧w'.cell? ⟨b',o'+k*4+3,none⟩=some (.slice B' ys.length c2))
        (first | go_keep | exact⟨kept hb1 (by simp only;omega) hbx1,kept hb1 (by simp only;omega) hbx2,kept hb1 hb d0,kept hb1 hb d1,kept hb1 hb d2,kept hb1 hb d3,kept hb1 hb' e0,kept hb1 hb' e1,kept hb1 hb' e2,kept hb1 hb' e3⟩)
        (first | (go_at_call 17;refine(IH.out ts[k] us[k] _ _ _ (by omega) (hT.below b1) (hT'.below b1)).mono ?_;rintro e w1⟨rfl,hb1⟩;rw[HQ.out]))
       go_wp2_with fail
       go_ret
       exact⟨rfl,by rw[HGG.out];exact b0.trans ((hbw.mono (by omega)).trans ((b1.trans hb1).mono (Nat.le_trans (by omega) hbw.size)))⟩
      ·have HQ:=Lib.hid hq
       clear hq
       go_wp2_with fail
       go_region_held3 (fun w'=>w'.cell? ⟨G,3,none⟩=some (.slice (some ⟨b,o,none⟩) ts.length c)∧w'.cell? ⟨G+1,3,none⟩=some (.slice (some ⟨b',o',none⟩) us.length c') ∧
         w'.cell? ⟨b,o+k*4,none⟩=some (.int .i64 k1)∧w'.cell? ⟨b,o+k*4+1,none⟩=some (S n1)∧w'.cell? ⟨b,o+k*4+2,none⟩=some (.int .i64 p1)∧w'.cell? ⟨b,o+k*4+3,none⟩=some (.slice B xs.length c1) ∧
         w'.cell? ⟨b',o'+k*4,none⟩=some (.int .i64 k2)∧w'.cell? ⟨b',o'+k*4+1,none⟩=some (S n2)∧w'.cell? ⟨b',o'+k*4+2,none⟩=some (.int .i64 p2)∧w'.cell? ⟨b',o'+k*4+3,none⟩=some (.slice B' ys.length c2))
        (first | go_keep | exact⟨kept hb1 (by simp only;omega) hbx1,kept hb1 (by simp only;omega) hbx2,kept hb1 hb d0,kept hb1 hb d1,kept hb1 hb d2,kept hb1 hb d3,kept hb1 hb' e0,kept hb1 hb' e1,kept hb1 hb' e2,kept hb1 hb' e3⟩)
        (first | (go_at_call 17;refine(IH.out ts[k] us[k] _ _ _ (by omega) (hT.below b1) (hT'.below b1)).mono ?_;rintro e w1⟨rfl,hb1⟩;rw[HQ.out]))
       go_wp2_with fail
       go_roundw
       case rel =>
        refine⟨k+1,by omega,by go_num,hbw.trans ((b1.trans hb1).mono hbw.size),Lib.hid fun j h h' hj=>?_⟩
        rcases Nat.lt_or_ge j k with h1 | h1
        ·exact hp.out j h h' h1
        ·obtain rfl:j=k:=by omega
         exact HQ.out
       case measure=>simp[intOf];omega
     ·have hres:=HS.out.2 ⟨HL.out,fun j h h'=>hp.out j h h' (by omega)⟩
      subst hres
      go_wp2_with fail
      go_ret
      exact⟨rfl,by rw[HGG.out];exact b0.trans (hbw.mono (by omega))⟩
  ·rw[hsame]
   have HAA:=Lib.hid haa
   have HN:=Lib.hid h1
   clear hsame h1 haa
   by_cases c1:kd=kd'
   ·have g1:((kd:Int) != kd')=false:=by simp[c1]
    by_cases c2:nm=nm'
    ·have g2:(nm == nm')=true:=by simp[c2]
     by_cases c3:at_=true∧ps≠ps'
     ·obtain⟨rfl,c3⟩:=c3
      have g4:((ps:Int) != ps')=true:=by simp[c3]
      have e:(decide (kd=kd') && decide (nm=nm') && (!aa || decide (ps=ps')) && Lfc.Raw.sames aa ts us)=false:=by simp[HAA.out,c3]
      rw[e]
      clear e c1 c2 c3
      go_enter Tryz.func17,Tryz.ntmps17
      go_wp2_with fail
      rw[HW0.out]
      go_ret
      exact⟨rfl,b0⟩
     ·have c4:ts.length≠us.length:=fun h=>HN.out ⟨c1,c2,fun h'=>Classical.byContradiction fun h''=>c3 ⟨h',h''⟩,h⟩
      have g3:((ts.length:Int) != (us.length:Int))=true:=by simp;omega
      have e:(decide (kd=kd') && decide (nm=nm') && (!aa || decide (ps=ps')) && Lfc.Raw.sames aa ts us)=false:=by simp[sames_len aa ts us c4]
      rw[e]
      have hat:at_=false∨(at_=true∧((ps:Int) != ps')=false):=by
       cases at_
       ·exact .inl rfl
       ·exact .inr ⟨rfl,by simpa using c3⟩
      clear e c1 c2 c3 c4
      rcases hat with rfl | ⟨rfl,g4⟩
      all_goals
       go_enter Tryz.func17,Tryz.ntmps17
       go_wp2_with fail
       rw[HW0.out]
       go_ret
       exact⟨rfl,b0⟩
    ·have g2:(nm == nm')=false:=by simp[c2]
     have e:(decide (kd=kd') && decide (nm=nm') && (!aa || decide (ps=ps')) && Lfc.Raw.sames aa ts us)=false:=by simp[c2]
     rw[e]
     clear e c1 c2
     go_enter Tryz.func17,Tryz.ntmps17
     go_wp2_with fail
     rw[HW0.out]
     go_ret
     exact⟨rfl,b0⟩
   ·have g1:((kd:Int) != kd')=true:=by simp[c1]
    have e:(decide (kd=kd') && decide (nm=nm') && (!aa || decide (ps=ps')) && Lfc.Raw.sames aa ts us)=false:=by simp[c1]
    rw[e]
    clear e c1
    go_enter Tryz.func17,Tryz.ntmps17
    go_wp2_with fail
    rw[HW0.out]
    go_ret
    exact⟨rfl,b0⟩
theorem rSame_any(at_:Bool)(t u:Lfc.Raw)(v v':Value)(w:World)(h:t.size≤1000000000)(hv:TreeV w t v)(hv':TreeV w u v') :
  Calls Tryz.prog 17 #[v,v',.bool at_] w fun e w'=>e=.returned (.bool (Lfc.Raw.same at_ t u))∧Below w.heap.size w w' :=
 rSame_aux at_ at_ rfl _ h t u v v' w (Nat.le_refl _) hv hv'
end Go.Proofs.YthajalgkjonaaaaGreatDoor
namespace Go.Proofs.YthajalgkjonaaaaGreatDoor
open Go.RowKit
theorem runName0(l:List UInt8)(w:World)(hl:l.length≤65536) :
    Calls Tryz.prog 77 #[S l,.int .i64 0,.func (.func 76) #[] #[]] w fun e w'=>e=.returned (.int .i64 ((Lfc.runLen Lfc.nameB l:Nat):Int))∧w=w':=by
  have h:=runName_any l 0 w hl (Nat.zero_le _)
  rw[List.drop_zero,Nat.zero_add] at h
  exact h
set_option maxHeartbeats 1000000 in
theorem isName_any(l:List UInt8)(w:World)(hl:l.length≤9223372036854775807):Calls Tryz.prog 80 #[S l] w fun e w'=>e=.returned (.bool (Lfc.isName l))∧w=w':=by
  cases l with
  | nil =>
    go_enter Tryz.func80,Tryz.ntmps80
    go_wp2_with fail
    go_ret
    exact⟨ret_bool (by simp[Lfc.isName]),rfl⟩
  | cons c r =>
    by_cases h64:(c :: r).length≤64
    · have hw:(c :: r).length≤65536:=by omega
      have hd:decide ((r.length:Int)+1≤64)=true:=by simp at h64 ⊢;omega
      generalize hR:Lfc.runLen Lfc.nameB (c :: r)=n
      generalize hS:Lfc.reservedB (c :: r)=b
      have HR:=Lib.hid hR
      have HS:=Lib.hid hS
      clear hR hS
      cases b
      all_goals
       go_enter Tryz.func80,Tryz.ntmps80
       go_wp2_with (first | (go_at_call 77;refine(runName0 _ _ hw).mono ?_;rintro e w'⟨rfl,rfl⟩;rw[HR.out]) | (go_at_call 146;refine(reserved_any _ _).mono ?_;rintro e w'⟨rfl,rfl⟩;rw[HS.out]))
       all_goals
         go_ret
         exact⟨ret_bool (by rw[Bool.eq_iff_iff];have hr:=HR.out;have hs:=HS.out;simp[Lfc.isName,hr,hs] at *;try omega),rfl⟩
    · have hd:decide ((r.length:Int)+1≤64)=false:=by simp at h64 ⊢;omega
      go_enter Tryz.func80,Tryz.ntmps80
      go_wp2_with fail
      go_ret
      exact⟨ret_bool (by simp only[Lfc.isName];rw[decide_eq_false h64];simp),rfl⟩
theorem runLen_all(p:UInt8→Bool)(l:List UInt8):Lfc.runLen p l=l.length↔∀k(h:k<l.length),p l[k]=true:=by
  induction l with
  |nil=>simp[Lfc.runLen]
  | cons c r ih =>
    rw[Lfc.runLen]
    constructor
    · intro h k hk
      have hle:=Lfc.runLen_le p r
      split at h
      · rename_i hc
        cases k with
        |zero=>exact hc
        |succ k=>exact(ih.1 (by simp at h;omega)) k (by simpa using hk)
      · simp at h
    · intro h
      have hc:p c=true:=h 0 (by simp)
      rw[if_pos hc,List.length_cons,ih.2 fun k hk=>h (k+1) (by simpa using hk)]
set_option maxHeartbeats 1000000 in
theorem rIsName_any(l:List UInt8)(w:World)(hl:l.length≤9223372036854775807):Calls Tryz.prog 124 #[S l] w fun e w'=>e=.returned (.bool (Lfc.isName l))∧w=w':=by
  cases l with
  | nil =>
    go_enter Tryz.func124,Tryz.ntmps124
    go_wp2_with fail
    go_ret
    exact⟨ret_bool (by simp[Lfc.isName]),rfl⟩
  | cons c r =>
    have hz:((r.length:Int)+1 == 0)=false:=by simp;omega
    by_cases h64:(c :: r).length≤64
    · have hd:decide (64<(r.length:Int)+1)=false:=by simp at h64 ⊢;omega
      cases hS:Lfc.reservedB (c :: r)
      · have HS:=Lib.hid hS
        clear hS
        by_cases hc:c.toNat=64
        · have hc':((c.toNat:Int) == 64)=true:=by simp;omega
          have hf:Lfc.isName (c :: r)=false:=by simp[Lfc.isName,hc]
          rw[hf]
          clear hc hf
          go_enter Tryz.func124,Tryz.ntmps124
          go_wp2_with (go_at_call 172;refine(rReserved_any _ _).mono ?_;rintro e w'⟨rfl,rfl⟩;rw[HS.out])
          go_ret
          exact⟨rfl,rfl⟩
        · have hc':((c.toNat:Int) == 64)=false:=by simp;omega
          have hn:Lfc.isName (c :: r)=decide (Lfc.runLen Lfc.nameB (c :: r)=(c :: r).length):=by
            simp only[Lfc.isName];rw[decide_eq_true h64,HS.out];simp[hc]
          have hall:=runLen_all Lfc.nameB (c :: r)
          rw[hn]
          have Hall:=Lib.hid hall
          clear hc hn hall
          go_enter Tryz.func124,Tryz.ntmps124
          go_wp2_with (go_at_call 172;refine(rReserved_any _ _).mono ?_;rintro e w'⟨rfl,rfl⟩;rw[HS.out])
          go_loop [3] (fun i=>∃k:Nat,k≤(c :: r).length∧i=.int .i64 k∧Hid (∀j(h:j<(c :: r).length),j<k→Lfc.nameB (c :: r)[j]=true)) (fun i=>(c :: r).length-(intOf i).toNat)
          case atStart=>exact⟨0,by simp,rfl,Lib.hid fun j _ h=>by omega⟩
          case round =>
            obtain⟨k,hk,rfl,hp⟩:=hrel
            by_cases hlt:k<(c :: r).length
            · have hlt':k<r.length+1:=by simpa using hlt
              cases hb:Lfc.nameB (c :: r)[k]
              · go_wp2_with fail
                refine(rNameByte_any _ _).mono ?_
                rintro e w'⟨rfl,rfl⟩
                rw[hb]
                go_wp2_with fail
                go_ret
                exact⟨ret_bool (by symm;apply decide_eq_false;intro hh;rw[Hall.out.1 hh k hlt] at hb;cases hb),rfl⟩
              · have Hb:=Lib.hid hb
                clear hb
                go_wp2_with fail
                refine(rNameByte_any _ _).mono ?_
                rintro e w'⟨rfl,rfl⟩
                rw[Hb.out]
                go_wp2_with fail
                go_round
                case rel =>
                  refine⟨k+1,by omega,by go_num,Lib.hid fun j h hj=>?_⟩
                  rcases Nat.lt_or_ge j k with h1 | h1
                  · exact hp.out j h h1
                  · obtain rfl:j=k:=by omega
                    exact Hb.out
                case measure=>simp[intOf] at *;omega
            · have hlt':¬k<r.length+1:=by simpa using hlt
              go_wp2_with fail
              go_ret
              exact⟨ret_bool (by symm;apply decide_eq_true;exact Hall.out.2 fun j h=>hp.out j h (by omega)),rfl⟩
      · have HS:=Lib.hid hS
        have hf:Lfc.isName (c :: r)=false:=by simp[Lfc.isName,hS]
        rw[hf]
        clear hS hf
        go_enter Tryz.func124,Tryz.ntmps124
        go_wp2_with (go_at_call 172;refine(rReserved_any _ _).mono ?_;rintro e w'⟨rfl,rfl⟩;rw[HS.out])
        go_ret
        exact⟨rfl,rfl⟩
    · have hd:decide (64<(r.length:Int)+1)=true:=by simp at h64 ⊢;omega
      have hf:Lfc.isName (c :: r)=false:=by simp only[Lfc.isName];rw[decide_eq_false h64];simp
      rw[hf]
      clear hf
      go_enter Tryz.func124,Tryz.ntmps124
      go_wp2_with fail
      go_ret
      exact⟨rfl,rfl⟩
end Go.Proofs.YthajalgkjonaaaaGreatDoor
namespace Go.Proofs.YthajalgkjonaaaaGreatDoor
open Go.RowKit
theorem lenCase0(m:Nat):∃b,((m:Int) == 0)=b∧decide (m=0)=b:=⟨_,rfl,by rw[Bool.eq_iff_iff];simp⟩
theorem lenCase1(m:Nat):∃b,((m:Int) == 1)=b∧decide (m=1)=b:=⟨_,rfl,by rw[Bool.eq_iff_iff];simp;omega⟩
theorem lenCase2(m:Nat):∃b,((m:Int) == 2)=b∧decide (m=2)=b:=⟨_,rfl,by rw[Bool.eq_iff_iff];simp;omega⟩
theorem nameCase(n q:List UInt8):∃b,(n == q)=b∧decide (n=q)=b:=⟨_,rfl,by rw[Bool.eq_iff_iff];simp⟩
set_option maxRecDepth 100000 in
set_option maxHeartbeats 1000000 in
theorem formed_any(k p:Int)(n:List UInt8)(ts:List Lfc.Raw)(v:Value)(w:World)(hlen:ts.length≤1000000000)(hv:TreeV w (.node k n p ts) v) :
  Calls Tryz.prog 101 #[v] w fun e w'=>e=.returned (.bool (Lfc.formed k n ts.length))∧Below w.heap.size w w':=by
 have hn:=hv.name_le
 obtain⟨A,c,rfl,hc,hA⟩:=hv.open_
 clear hA hv
 have b0:Below w.heap.size w (w.alloc (.cells #[.int .i64 k,S n,.int .i64 p,.slice A ts.length c] 46)):=(Below.refl _ _).alloc (Nat.le_refl _) _
 have HI:=Lib.hid (fun W=>isName_any n W (by omega))
 generalize hm:ts.length=m at *
 have hk:(k=1∨k=2)∨(k=3∨k=4)∨(k=5∨k=6∨k=9)∨(k=7∨k=8)∨(k≠1∧k≠2∧k≠3∧k≠4∧k≠5∧k≠6∧k≠7∧k≠8∧k≠9):=by omega
 rcases hk with hk | hk | hk | hk | hk
 ·have e:Lfc.formed k n m=(Lfc.isName n && decide (m=0)):=by unfold Lfc.formed;rw[if_pos hk]
  rw[e]
  clear e
  generalize Lfc.isName n=q at *
  obtain⟨bm,g0,d0⟩:=lenCase0 m
  rw[d0]
  clear d0
  rcases hk with rfl | rfl
  all_goals
   cases q
   all_goals
    cases bm
    all_goals
     go_enter Tryz.func101,Tryz.ntmps101
     go_wp2_with fail
     refine(HI.out _).mono ?_
     rintro e w1⟨rfl,rfl⟩
     go_wp2_with fail
     go_ret
     exact⟨rfl,b0⟩
 ·have e:Lfc.formed k n m=(decide (n=[]) && decide (m=0)):=by unfold Lfc.formed;rw[if_neg (by omega),if_pos hk]
  rw[e]
  clear e
  obtain⟨bm,g0,d0⟩:=lenCase0 m
  obtain⟨q,g1,d1⟩:=nameCase n []
  rw[d0,d1]
  clear d0 d1
  rcases hk with rfl | rfl
  all_goals
   cases q
   all_goals
    cases bm
    all_goals
     go_enter Tryz.func101,Tryz.ntmps101
     go_wp2_with fail
     go_ret
     exact⟨rfl,b0⟩
 ·have e:Lfc.formed k n m=(decide (n=[]) && decide (m=2)):=by unfold Lfc.formed;rw[if_neg (by omega),if_neg (by omega),if_pos hk]
  rw[e]
  clear e
  obtain⟨bm,g0,d0⟩:=lenCase2 m
  obtain⟨q,g1,d1⟩:=nameCase n []
  rw[d0,d1]
  clear d0 d1
  rcases hk with rfl | rfl | rfl
  all_goals
   cases q
   all_goals
    cases bm
    all_goals
     go_enter Tryz.func101,Tryz.ntmps101
     go_wp2_with fail
     go_ret
     exact⟨rfl,b0⟩
 ·have e:Lfc.formed k n m=((Lfc.isName n || decide (n=[95])) && (decide (m=1) || decide (m=2))):=by unfold Lfc.formed;rw[if_neg (by omega),if_neg (by omega),if_neg (by omega),if_pos hk]
  rw[e]
  clear e
  obtain⟨bm,g0,d0⟩:=lenCase1 m
  obtain⟨bn,g1,d1⟩:=lenCase2 m
  obtain⟨r,g2,d2⟩:=nameCase n [95]
  rw[d0,d1,d2]
  clear d0 d1 d2
  generalize Lfc.isName n=q at *
  rcases hk with rfl | rfl
  all_goals
   cases q
   all_goals
    cases r
    all_goals
     cases bm
     all_goals
      cases bn
      all_goals
       go_enter Tryz.func101,Tryz.ntmps101
       go_wp2_with fail
       refine(HI.out _).mono ?_
       rintro e w1⟨rfl,rfl⟩
       go_wp2_with fail
       go_ret
       exact⟨rfl,b0⟩
 ·obtain⟨h1,h2,h3,h4,h5,h6,h7,h8,h9⟩:=hk
  have e:Lfc.formed k n m=false:=by unfold Lfc.formed;rw[if_neg (by omega),if_neg (by omega),if_neg (by omega),if_neg (by omega)]
  rw[e]
  have e1:(k == 1)=false:=by simp[h1]
  have e2:(k == 2)=false:=by simp[h2]
  have e3:(k == 3)=false:=by simp[h3]
  have e4:(k == 4)=false:=by simp[h4]
  have e5:(k == 5)=false:=by simp[h5]
  have e6:(k == 6)=false:=by simp[h6]
  have e7:(k == 7)=false:=by simp[h7]
  have e8:(k == 8)=false:=by simp[h8]
  have e9:(k == 9)=false:=by simp[h9]
  clear e h1 h2 h3 h4 h5 h6 h7 h8 h9
  go_enter Tryz.func101,Tryz.ntmps101
  go_wp2_with fail
  go_ret
  exact⟨rfl,b0⟩
theorem enters_whole:∀args w,(callFunc 100 args).run Tryz.prog w=.ok (.enter 100 args) w:=enters_of Tryz.func100 (by kernel_rfl) rfl
theorem enters_not:∀args w,(callFunc 103 args).run Tryz.prog w=.ok (.enter 103 args) w:=enters_of Tryz.func103 (by kernel_rfl) rfl
def WholeAt(w:World)(B:Nat):Prop:=B<w.heap.size∧w.cell? ⟨B,0,none⟩=some (.func (.func 100) #[] #[.pointer (some ⟨B,0,none⟩)])
theorem WholeAt.below{w w':World}{B:Nat}(h:WholeAt w B)(hb:Below w.heap.size w w'):WholeAt w' B :=
 ⟨Nat.lt_of_lt_of_le h.1 hb.size,(hb.cell (p:=⟨B,0,none⟩) h.1).trans h.2⟩
def WholeUpto(m:Nat):Prop:=∀(t:Lfc.Raw)(v:Value)(w:World)(B:Nat),t.size≤m→TreeV w t v→WholeAt w B →
  Calls Tryz.prog 100 #[v,.pointer (some ⟨B,0,none⟩)] w fun e w'=>e=.returned (.bool t.form)∧Below w.heap.size w w'
set_option maxRecDepth 100000 in
set_option maxHeartbeats 1000000 in
theorem notWhole_any(m:Nat)(ih:WholeUpto m)(t:Lfc.Raw)(v:Value)(w:World)(B:Nat)(hm:t.size≤m)(hv:TreeV w t v)(hB:WholeAt w B) :
  Calls Tryz.prog 103 #[v,.pointer (some ⟨B,0,none⟩)] w fun e w'=>e=.returned (.bool (!t.form))∧Below w.heap.size w w':=by
 have he:=enters_whole
 obtain⟨kd,nm,ps,ts⟩:=t
 obtain⟨A,c,rfl,hc,hA⟩:=hv.open_
 have b0:Below w.heap.size w (w.alloc (.cells #[.int .i64 kd,S nm,.int .i64 ps,.slice A ts.length c] 46)):=(Below.refl _ _).alloc (Nat.le_refl _) _
 have IH:=Lib.hid (ih _ _ _ B hm (hv.below b0) (hB.below b0))
 have hcell:=(hB.below b0).2
 clear ih hB hv hA
 generalize (Lfc.Raw.node kd nm ps ts).form=q at *
 go_enter Tryz.func103,Tryz.ntmps103
 go_wp2_with fail
 refine IH.out.mono ?_
 rintro e w1⟨rfl,hb1⟩
 cases q
 all_goals
  go_wp2_with fail
  go_ret
  exact⟨rfl,b0.trans (hb1.mono b0.size)⟩
end Go.Proofs.YthajalgkjonaaaaGreatDoor
namespace Go.Proofs.YthajalgkjonaaaaGreatDoor
open Go.RowKit
theorem forms_spec:∀(ts:List Lfc.Raw),Lfc.Raw.forms ts=true↔∀k(h:k<ts.length),ts[k].form=true
 |[]=>by simp[Lfc.Raw.forms]
 | a :: r => by
  rw[Lfc.Raw.forms,Bool.and_eq_true,forms_spec r]
  constructor
  ·rintro⟨h1,h2⟩ k h
   cases k with
   |zero=>exact h1
   |succ k=>exact h2 k (by simpa using h)
  ·intro h
   exact⟨h 0 (by simp),fun k hk=>h (k+1) (by simpa using hk)⟩
theorem forms_false(ts:List Lfc.Raw)(k:Nat)(h:k<ts.length)(hf:ts[k].form=false):Lfc.Raw.forms ts=false:=by
 cases hs:Lfc.Raw.forms ts
 ·rfl
 ·rw[(forms_spec ts).1 hs k h] at hf;cases hf
set_option maxRecDepth 100000 in
set_option maxHeartbeats 1000000 in
theorem indexNot_any(m:Nat)(ih:WholeUpto m)(ts:List Lfc.Raw)(A:Option Addr)(c:Nat)(w:World)(B:Nat)(hm:Lfc.Raw.sizes ts≤m)(hmax:ts.length≤1000000000)(h:TreesAt w A ts)(hB:WholeAt w B) :
  Calls Tryz.prog 158 #[.slice A ts.length c,.func (.func 103) #[] #[.pointer (some ⟨B,0,none⟩)]] w fun e w'=>∃i:Int,e=.returned (.int .i64 i)∧decide (i≥0)=!Lfc.Raw.forms ts∧Below w.heap.size w w':=by
 have he:=enters_not
 have IH:=Lib.hid (notWhole_any m ih)
 have HA:=Lib.hid h
 have HB:=Lib.hid hB
 have HS:=Lib.hid (forms_spec ts)
 have HF:=Lib.hid (forms_false ts)
 clear ih h hB
 generalize Lfc.Raw.forms ts=res at *
 go_enter Tryz.func158,Tryz.ntmps158
 go_wp2_with fail
 go_loopw [8] (fun i wr=>∃k:Nat,k≤ts.length∧i=.int .i64 k∧Below w.heap.size w wr∧Hid (∀j(h:j<ts.length),j<k→ts[j].form=true)) (fun i _=>ts.length-(intOf i).toNat)
 case atStart=>exact⟨0,by omega,rfl,Below.refl _ _,Lib.hid fun j _ hj=>by omega⟩
 case round =>
  obtain⟨k,hk,rfl,hbw,hp⟩:=hrel
  by_cases hlt:k<ts.length
  ·obtain⟨b,o,k1,n1,p1,xs,B1,c1,rfl,hb,ht,d0,d1,d2,d3,hcu,hB,hT⟩:=(HA.out.below hbw).at_ hlt
   have hmem:=Lfc.Raw.sizes_mem ts ts[k] (List.getElem_mem _)
   clear hB ht
   have hT2:=Lib.hid hT
   have HB2:=Lib.hid (HB.out.below hbw)
   cases hq:ts[k].form
   ·have hres:=HF.out k hlt hq
    subst hres
    have HQ:=Lib.hid hq
    clear hq
    go_wp2_with fail
    refine(IH.out ts[k] _ _ B (by omega) hT2.out HB2.out).mono ?_
    rintro e w1⟨rfl,hb1⟩
    rw[HQ.out]
    go_wp2_with fail
    go_ret
    exact⟨k,rfl,by simp,hbw.trans (hb1.mono hbw.size)⟩
   ·have HQ:=Lib.hid hq
    clear hq
    go_wp2_with fail
    refine(IH.out ts[k] _ _ B (by omega) hT2.out HB2.out).mono ?_
    rintro e w1⟨rfl,hb1⟩
    rw[HQ.out]
    go_wp2_with fail
    go_roundw
    case rel =>
     refine⟨k+1,by omega,by go_num,hbw.trans (hb1.mono hbw.size),Lib.hid fun j h hj=>?_⟩
     rcases Nat.lt_or_ge j k with h1 | h1
     ·exact hp.out j h h1
     ·obtain rfl:j=k:=by omega
      exact HQ.out
    case measure=>simp[intOf];omega
  ·have hres:=HS.out.2 fun j h=>hp.out j h (by omega)
   subst hres
   go_wp2_with fail
   go_ret
   exact⟨-1,rfl,by decide,hbw⟩
set_option maxRecDepth 100000 in
set_option maxHeartbeats 1000000 in
theorem containsNot_any(m:Nat)(ih:WholeUpto m)(ts:List Lfc.Raw)(A:Option Addr)(c:Nat)(w:World)(B:Nat)(hm:Lfc.Raw.sizes ts≤m)(hmax:ts.length≤1000000000)(h:TreesAt w A ts)(hB:WholeAt w B) :
  Calls Tryz.prog 102 #[.slice A ts.length c,.func (.func 103) #[] #[.pointer (some ⟨B,0,none⟩)]] w fun e w'=>e=.returned (.bool (!Lfc.Raw.forms ts))∧Below w.heap.size w w':=by
 have IH:=Lib.hid (indexNot_any m ih ts A c w B hm hmax h hB)
 clear ih h hB
 go_enter Tryz.func102,Tryz.ntmps102
 go_wp2_with fail
 refine IH.out.mono ?_
 rintro e w1⟨i,rfl,hi,hb1⟩
 have HI:=Lib.hid hi
 clear hi
 go_wp2_with fail
 go_ret
 exact⟨ret_bool HI.out,hb1⟩
set_option maxRecDepth 100000 in
set_option maxHeartbeats 1000000 in
theorem whole_upto(m:Nat)(hmm:m≤1000000000):WholeUpto m:=by
 induction m with
 |zero=>intro t v w B h _ _;have:=t.size_pos;omega
 | succ m ih =>
  intro t v w B hsz hv hB
  obtain⟨kd,nm,ps,ts⟩:=t
  obtain⟨A,c,rfl,hc,hA⟩:=hv.open_
  have hsz':=hsz
  simp only[Lfc.Raw.size] at hsz'
  have hlen:=Lfc.Raw.sizes_len ts
  have b0:Below w.heap.size w (w.alloc (.cells #[.int .i64 kd,S nm,.int .i64 ps,.slice A ts.length c] 46)):=(Below.refl _ _).alloc (Nat.le_refl _) _
  have HF:=Lib.hid (formed_any kd ps nm ts _ _ (by omega) (hv.below b0))
  have HC:=Lib.hid (fun W (hb:Below w.heap.size w W)=>containsNot_any m (ih (by omega)) ts A c W B (by omega) (by omega) (hA.below hb) (hB.below hb))
  rw[Lfc.Raw.form]
  clear ih hA hv hB
  generalize Lfc.formed kd nm ts.length=q1 at *
  generalize Lfc.Raw.forms ts=q2 at *
  have hx:(w.alloc (.cells #[.int .i64 kd,S nm,.int .i64 ps,.slice A ts.length c] 46)).cell? ⟨w.heap.size,3,none⟩=some (.slice A ts.length c):=by simp
  cases q1
  ·go_enter Tryz.func100,Tryz.ntmps100
   go_wp2_with fail
   refine HF.out.mono ?_
   rintro e w1⟨rfl,hb1⟩
   go_wp2_with fail
   go_ret
   exact⟨rfl,b0.trans (hb1.mono b0.size)⟩
  ·go_enter Tryz.func100,Tryz.ntmps100
   go_wp2_with fail
   refine HF.out.mono ?_
   rintro e w1⟨rfl,hb1⟩
   have hx1:=(hb1.cell (p:=⟨w.heap.size,3,none⟩) (by simp)).trans hx
   go_wp2_with fail
   refine(HC.out _ (b0.trans (hb1.mono b0.size))).mono ?_
   rintro e w2⟨rfl,hb2⟩
   cases q2
   all_goals
    go_wp2_with fail
    go_ret
    exact⟨rfl,(b0.trans (hb1.mono b0.size)).trans (hb2.mono (b0.trans (hb1.mono b0.size)).size)⟩
end Go.Proofs.YthajalgkjonaaaaGreatDoor
namespace Go.Proofs.YthajalgkjonaaaaGreatDoor
open Go.RowKit
set_option maxRecDepth 100000 in
set_option maxHeartbeats 2000000 in
theorem rForm_any(m:Nat)(hmm:m≤1000000000):∀(t:Lfc.Raw)(v:Value)(w:World),t.size≤m→TreeV w t v →
  Calls Tryz.prog 67 #[v] w fun e w'=>e=.returned (.bool t.form)∧Below w.heap.size w w':=by
 induction m with
 |zero=>intro t v w h _;have:=t.size_pos;omega
 | succ m ih =>
  intro t v w hsz hv
  obtain⟨kd,nm,ps,ts⟩:=t
  have hn:=hv.name_le
  obtain⟨A,c,rfl,hc,hA⟩:=hv.open_
  simp only[Lfc.Raw.size] at hsz
  have hlen:=Lfc.Raw.sizes_len ts
  obtain⟨w0,hw0⟩:∃w0,w.alloc (.cells #[.int .i64 kd,S nm,.int .i64 ps,.slice A ts.length c] 46)=w0:=⟨_,rfl⟩
  have b0:Below w.heap.size w w0:=by rw[←hw0];exact(Below.refl _ _).alloc (Nat.le_refl _) _
  have s0:w.heap.size<w0.heap.size:=by rw[←hw0];simp
  have hx0:w0.cell? ⟨w.heap.size,0,none⟩=some (.int .i64 kd):=by rw[←hw0];simp
  have hx1:w0.cell? ⟨w.heap.size,1,none⟩=some (S nm):=by rw[←hw0];simp
  have hx3:w0.cell? ⟨w.heap.size,3,none⟩=some (.slice A ts.length c):=by rw[←hw0];simp
  have IH:=Lib.hid (ih (by omega))
  have HA:=Lib.hid (hA.below b0)
  have HN:=Lib.hid (fun W=>rIsName_any nm W (by omega))
  have HW0:=Lib.hid hw0
  rw[Lfc.Raw.form]
  clear ih hA hv hw0
  have HS:=Lib.hid (forms_spec ts)
  have HF:=Lib.hid (forms_false ts)
  generalize Lfc.Raw.forms ts=res at *
  generalize hfo:Lfc.formed kd nm ts.length=fo at *
  have HFO:=Lib.hid hfo
  clear hfo
  go_enter Tryz.func67,Tryz.ntmps67
  go_upto_block 0 with fail
  rw[HW0.out]
  clear HW0
  generalize hG:w.heap.size=G at *
  have HGG:=Lib.hid hG
  clear hG
  go_cut [3] (fun s3 wx=>s3=.bool fo∧wx=w0)
  case first =>
   clear IH HA HS HF
   have hk:(kd=1∨kd=2)∨(kd=3∨kd=4)∨(kd=5∨kd=6∨kd=9)∨(kd=7∨kd=8)∨(kd≠1∧kd≠2∧kd≠3∧kd≠4∧kd≠5∧kd≠6∧kd≠7∧kd≠8∧kd≠9):=by omega
   rcases hk with hk | hk | hk | hk | hk
   ·have e:fo=(Lfc.isName nm && decide (ts.length=0)):=by rw[←HFO.out];unfold Lfc.formed;rw[if_pos hk]
    generalize Lfc.isName nm=q at *
    obtain⟨bm,g0,d0⟩:=lenCase0 ts.length
    rw[d0] at e
    clear HFO
    subst e
    clear d0
    rcases hk with rfl | rfl
    all_goals
     cases q
     all_goals
      cases bm
      all_goals
       go_wp2_with fail
       refine(HN.out _).mono ?_
       rintro e w1⟨rfl,rfl⟩
       go_wp2_with fail
       go_meet
       exact⟨rfl,rfl⟩
   ·have e:fo=(decide (nm=[]) && decide (ts.length=0)):=by rw[←HFO.out];unfold Lfc.formed;rw[if_neg (by omega),if_pos hk]
    obtain⟨bm,g0,d0⟩:=lenCase0 ts.length
    obtain⟨q,g1,d1⟩:=nameCase nm []
    rw[d0,d1] at e
    clear HFO
    subst e
    clear d0 d1
    rcases hk with rfl | rfl
    all_goals
     cases q
     all_goals
      cases bm
      all_goals
       go_wp2_with fail
       go_meet
       exact⟨rfl,rfl⟩
   ·have e:fo=(decide (nm=[]) && decide (ts.length=2)):=by rw[←HFO.out];unfold Lfc.formed;rw[if_neg (by omega),if_neg (by omega),if_pos hk]
    obtain⟨bm,g0,d0⟩:=lenCase2 ts.length
    obtain⟨q,g1,d1⟩:=nameCase nm []
    rw[d0,d1] at e
    clear HFO
    subst e
    clear d0 d1
    rcases hk with rfl | rfl | rfl
    all_goals
     cases q
     all_goals
      cases bm
      all_goals
       go_wp2_with fail
       go_meet
       exact⟨rfl,rfl⟩
   ·have e:fo=((decide (nm=[95]) || Lfc.isName nm) && (decide (ts.length=1) || decide (ts.length=2))):=by rw[←HFO.out];unfold Lfc.formed;rw[if_neg (by omega),if_neg (by omega),if_neg (by omega),if_pos hk,Bool.or_comm (Lfc.isName nm)]
    generalize Lfc.isName nm=q at *
    obtain⟨bm,g0,d0⟩:=lenCase1 ts.length
    obtain⟨bn,g1,d1⟩:=lenCase2 ts.length
    obtain⟨r,g2,d2⟩:=nameCase nm [95]
    rw[d0,d1,d2] at e
    clear HFO
    subst e
    clear d0 d1 d2
    rcases hk with rfl | rfl
    all_goals
     cases r
     ·cases q
      all_goals
       cases bm
       all_goals
        cases bn
        all_goals
         go_wp2_with fail
         refine(HN.out _).mono ?_
         rintro e w1⟨rfl,rfl⟩
         go_wp2_with fail
         go_meet
         exact⟨rfl,rfl⟩
     ·cases bm
      all_goals
       cases bn
       all_goals
        go_wp2_with fail
        go_meet
        exact⟨rfl,rfl⟩
   ·obtain⟨h1,h2,h3,h4,h5,h6,h7,h8,h9⟩:=hk
    have e:fo=false:=by rw[←HFO.out];unfold Lfc.formed;rw[if_neg (by omega),if_neg (by omega),if_neg (by omega),if_neg (by omega)]
    clear HFO
    subst e
    have e1:(kd == 1)=false:=by simp[h1]
    have e2:(kd == 2)=false:=by simp[h2]
    have e3:(kd == 3)=false:=by simp[h3]
    have e4:(kd == 4)=false:=by simp[h4]
    have e5:(kd == 5)=false:=by simp[h5]
    have e6:(kd == 6)=false:=by simp[h6]
    have e7:(kd == 7)=false:=by simp[h7]
    have e8:(kd == 8)=false:=by simp[h8]
    have e9:(kd == 9)=false:=by simp[h9]
    clear h1 h2 h3 h4 h5 h6 h7 h8 h9
    go_wp2_with fail
    go_meet
    exact⟨rfl,rfl⟩
  case rest =>
   obtain⟨rfl,rfl⟩:=hcut
   clear HFO
   cases fo
   ·go_wp2_with fail
    go_ret
    exact⟨rfl,by rw[HGG.out];exact b0⟩
   ·go_wp2_with fail
    go_loopw [4] (fun i wr=>∃k:Nat,k≤ts.length∧i=.int .i64 k∧Below wc.heap.size wc wr∧Hid (∀j(h:j<ts.length),j<k→ts[j].form=true)) (fun i _=>ts.length-(intOf i).toNat)
    case atStart=>exact⟨0,by omega,rfl,Below.refl _ _,Lib.hid fun j _ hj=>by omega⟩
    case round =>
     obtain⟨k,hk,rfl,hbw,hp⟩:=hrel
     have hbx:wr.cell? ⟨G,3,none⟩=some (.slice A ts.length c):=(hbw.cell (p:=⟨G,3,none⟩) s0).trans hx3
     by_cases hlt:k<ts.length
     ·obtain⟨b,o,k1,n1,p1,xs,B1,c1,rfl,hb,ht,d0,d1,d2,d3,hcu,hB,hT⟩:=(HA.out.below hbw).at_ hlt
      have hmem:=Lfc.Raw.sizes_mem ts ts[k] (List.getElem_mem _)
      clear hB ht
      have hws:=hbw.size
      cases hq:ts[k].form
      ·have hres:=HF.out k hlt hq
       subst hres
       have HQ:=Lib.hid hq
       clear hq
       go_wp2_with fail
       refine(IH.out ts[k] _ _ (by omega) hT).mono ?_
       rintro e w1⟨rfl,hb1⟩
       rw[HQ.out]
       go_wp2_with fail
       go_ret
       exact⟨rfl,by rw[HGG.out];exact b0.trans ((hbw.mono (by omega)).trans (hb1.mono (by omega)))⟩
      ·have HQ:=Lib.hid hq
       clear hq
       go_wp2_with fail
       refine(IH.out ts[k] _ _ (by omega) hT).mono ?_
       rintro e w1⟨rfl,hb1⟩
       rw[HQ.out]
       go_wp2_with fail
       go_roundw
       case rel =>
        refine⟨k+1,by omega,by go_num,hbw.trans (hb1.mono hbw.size),Lib.hid fun j h hj=>?_⟩
        rcases Nat.lt_or_ge j k with h1 | h1
        ·exact hp.out j h h1
        ·obtain rfl:j=k:=by omega
         exact HQ.out
       case measure=>simp[intOf];omega
     ·have hres:=HS.out.2 fun j h=>hp.out j h (by omega)
      subst hres
      go_wp2_with fail
      go_ret
      exact⟨rfl,by rw[HGG.out];exact b0.trans (hbw.mono (by omega))⟩
end Go.Proofs.YthajalgkjonaaaaGreatDoor
namespace Go.Proofs.YthajalgkjonaaaaGreatDoor
open Go.RowKit
set_option maxRecDepth 100000 in
set_option maxHeartbeats 2000000 in
theorem wf_any(t:Lfc.Raw)(v:Value)(w:World)(hmax:t.size≤1000000000)(hv:TreeV w t v) :
  Calls Tryz.prog 48 #[v] w fun e w'=>e=.returned (.int .i64 t.wf)∧Below w.heap.size w w':=by
 have he:=enters_whole
 have hd:=Lfc.Raw.depth_le_size _ t (Nat.le_refl _)
 have HWF:=Lib.hid (show t.wf=if !t.form then 1 else if 4096<t.size∨128<t.depth then 2 else 0 from rfl)
 generalize t.wf=wf at *
 obtain⟨A,c,kd,nm,ps,ts,hT,rfl,hc,hA⟩:∃A c kd nm ps ts,t=.node kd nm ps ts∧v=.agg #[.int .i64 kd,S nm,.int .i64 ps,.slice A ts.length c]∧ts.length≤c∧TreesAt w A ts:=by
  obtain⟨kd,nm,ps,ts⟩:=t
  obtain⟨A,c,rfl,hc,hA⟩:=hv.open_
  exact⟨A,c,kd,nm,ps,ts,rfl,rfl,hc,hA⟩
 clear hT hA
 obtain⟨w0,hw0⟩:∃w0,w.alloc (.cells #[.int .i64 kd,S nm,.int .i64 ps,.slice A ts.length c] 46)=w0:=⟨_,rfl⟩
 have b0:Below w.heap.size w w0:=by rw[←hw0];exact(Below.refl _ _).alloc (Nat.le_refl _) _
 have s0:w.heap.size+1=w0.heap.size:=by rw[←hw0];simp
 have hx0:w0.cell? ⟨w.heap.size,0,none⟩=some (.int .i64 kd):=by rw[←hw0];simp
 have hx1:w0.cell? ⟨w.heap.size,1,none⟩=some (S nm):=by rw[←hw0];simp
 have hx2:w0.cell? ⟨w.heap.size,2,none⟩=some (.int .i64 ps):=by rw[←hw0];simp
 have hx3:w0.cell? ⟨w.heap.size,3,none⟩=some (.slice A ts.length c):=by rw[←hw0];simp
 obtain⟨w1,hw1⟩:∃w1,w0.alloc (.cells #[.func (.func 100) #[] #[.pointer (some ⟨w0.heap.size,0,none⟩)]] 135)=w1:=⟨_,rfl⟩
 have b1:Below w0.heap.size w0 w1:=by rw[←hw1];exact(Below.refl _ _).alloc (Nat.le_refl _) _
 have s1:w0.heap.size+1=w1.heap.size:=by rw[←hw1];simp
 have hcell:w1.cell? ⟨w0.heap.size,0,none⟩=some (.func (.func 100) #[] #[.pointer (some ⟨w0.heap.size,0,none⟩)]):=by rw[←hw1];simp
 have hsz:w1.heap.size=w.heap.size+2:=by omega
 have hy0:=(b1.cell (p:=⟨w.heap.size,0,none⟩) (by simp only;omega)).trans hx0
 have hy1:=(b1.cell (p:=⟨w.heap.size,1,none⟩) (by simp only;omega)).trans hx1
 have hy2:=(b1.cell (p:=⟨w.heap.size,2,none⟩) (by simp only;omega)).trans hx2
 have hy3:=(b1.cell (p:=⟨w.heap.size,3,none⟩) (by simp only;omega)).trans hx3
 have b01:Below w.heap.size w w1:=b0.trans (b1.mono (by omega))
 clear hx0 hx1 hx2 hx3
 have HV:=Lib.hid (hv.below b01)
 have HI:=Lib.hid (whole_upto _ hmax t _ w1 w0.heap.size (Nat.le_refl _) HV.out ⟨by omega,hcell⟩)
 go_enter Tryz.func48,Tryz.ntmps48
 go_upto_region 3 with fail
 clear hw1 hw0
 generalize hq:t.form=q at *
 have HQ:=Lib.hid hq
 clear hq
 cases q
 ·go_wp2_with fail
  refine HI.out.mono ?_
  rintro e w2⟨rfl,hb2⟩
  go_wp2_with fail
  go_ret
  exact⟨ret_int (by rw[HWF.out];rfl),b01.trans (hb2.mono (by omega))⟩
 ·go_wp2_with fail
  refine HI.out.mono ?_
  rintro e w2⟨rfl,hb2⟩
  have hz0:=(hb2.cell (p:=⟨w.heap.size,0,none⟩) (by simp only;omega)).trans hy0
  have hz1:=(hb2.cell (p:=⟨w.heap.size,1,none⟩) (by simp only;omega)).trans hy1
  have hz2:=(hb2.cell (p:=⟨w.heap.size,2,none⟩) (by simp only;omega)).trans hy2
  have hz3:=(hb2.cell (p:=⟨w.heap.size,3,none⟩) (by simp only;omega)).trans hy3
  have HV2:=Lib.hid (HV.out.below hb2)
  have hs2:=hb2.size
  clear hy0 hy1 hy2 hy3 hcell
  by_cases hbig:4096<t.size
  ·have g1:decide ((t.size:Int)>4096)=true:=by simp;omega
   go_wp2_with fail
   refine(size_any _ t _ _ (Nat.le_refl _) hmax HV2.out).mono ?_
   rintro e w3⟨rfl,hb3⟩
   go_wp2_with fail
   go_ret
   exact⟨ret_int (by rw[HWF.out,if_neg (by simp),if_pos (.inl hbig)]),b01.trans ((hb2.mono (by omega)).trans (hb3.mono (by omega)))⟩
  ·have g1:decide ((t.size:Int)>4096)=false:=by simp;omega
   go_wp2_with fail
   refine(size_any _ t _ _ (Nat.le_refl _) hmax HV2.out).mono ?_
   rintro e w3⟨rfl,hb3⟩
   have hz0:=(hb3.cell (p:=⟨w.heap.size,0,none⟩) (by simp only;omega)).trans hz0
   have hz1:=(hb3.cell (p:=⟨w.heap.size,1,none⟩) (by simp only;omega)).trans hz1
   have hz2:=(hb3.cell (p:=⟨w.heap.size,2,none⟩) (by simp only;omega)).trans hz2
   have hz3:=(hb3.cell (p:=⟨w.heap.size,3,none⟩) (by simp only;omega)).trans hz3
   have HV3:=Lib.hid (HV2.out.below hb3)
   have hs3:=hb3.size
   by_cases hdp:128<t.depth
   ·have g2:decide ((t.depth:Int)>128)=true:=by simp;omega
    go_wp2_with fail
    refine(depth_any _ t _ _ (Nat.le_refl _) hmax HV3.out).mono ?_
    rintro e w4⟨rfl,hb4⟩
    go_wp2_with fail
    go_ret
    exact⟨ret_int (by rw[HWF.out,if_neg (by simp),if_pos (.inr hdp)]),b01.trans ((hb2.mono (by omega)).trans ((hb3.mono (by omega)).trans (hb4.mono (by omega))))⟩
   ·have g2:decide ((t.depth:Int)>128)=false:=by simp;omega
    go_wp2_with fail
    refine(depth_any _ t _ _ (Nat.le_refl _) hmax HV3.out).mono ?_
    rintro e w4⟨rfl,hb4⟩
    go_wp2_with fail
    go_ret
    exact⟨ret_int (by rw[HWF.out,if_neg (by simp),if_neg (by omega)]),b01.trans ((hb2.mono (by omega)).trans ((hb3.mono (by omega)).trans (hb4.mono (by omega))))⟩
set_option maxRecDepth 100000 in
set_option maxHeartbeats 2000000 in
theorem rWf_any(t:Lfc.Raw)(v:Value)(w:World)(hmax:t.size≤1000000000)(hv:TreeV w t v) :
  Calls Tryz.prog 37 #[v] w fun e w'=>e=.returned (.int .i64 t.wf)∧Below w.heap.size w w':=by
 have hd:=Lfc.Raw.depth_le_size _ t (Nat.le_refl _)
 have HWF:=Lib.hid (show t.wf=if !t.form then 1 else if 4096<t.size∨128<t.depth then 2 else 0 from rfl)
 generalize t.wf=wf at *
 obtain⟨A,c,kd,nm,ps,ts,hT,rfl,hc,hA⟩:∃A c kd nm ps ts,t=.node kd nm ps ts∧v=.agg #[.int .i64 kd,S nm,.int .i64 ps,.slice A ts.length c]∧ts.length≤c∧TreesAt w A ts:=by
  obtain⟨kd,nm,ps,ts⟩:=t
  obtain⟨A,c,rfl,hc,hA⟩:=hv.open_
  exact⟨A,c,kd,nm,ps,ts,rfl,rfl,hc,hA⟩
 clear hT hA
 obtain⟨w1,hw1⟩:∃w1,w.alloc (.cells #[.int .i64 kd,S nm,.int .i64 ps,.slice A ts.length c] 46)=w1:=⟨_,rfl⟩
 have b01:Below w.heap.size w w1:=by rw[←hw1];exact(Below.refl _ _).alloc (Nat.le_refl _) _
 have s0:w.heap.size+1=w1.heap.size:=by rw[←hw1];simp
 have hy0:w1.cell? ⟨w.heap.size,0,none⟩=some (.int .i64 kd):=by rw[←hw1];simp
 have hy1:w1.cell? ⟨w.heap.size,1,none⟩=some (S nm):=by rw[←hw1];simp
 have hy2:w1.cell? ⟨w.heap.size,2,none⟩=some (.int .i64 ps):=by rw[←hw1];simp
 have hy3:w1.cell? ⟨w.heap.size,3,none⟩=some (.slice A ts.length c):=by rw[←hw1];simp
 have HV:=Lib.hid (hv.below b01)
 have HI:=Lib.hid (rForm_any _ hmax t _ w1 (Nat.le_refl _) HV.out)
 go_enter Tryz.func37,Tryz.ntmps37
 go_upto_region 1 with fail
 clear hw1
 generalize hq:t.form=q at *
 have HQ:=Lib.hid hq
 clear hq
 cases q
 ·go_wp2_with fail
  refine HI.out.mono ?_
  rintro e w2⟨rfl,hb2⟩
  go_wp2_with fail
  go_ret
  exact⟨ret_int (by rw[HWF.out];rfl),b01.trans (hb2.mono (by omega))⟩
 ·go_wp2_with fail
  refine HI.out.mono ?_
  rintro e w2⟨rfl,hb2⟩
  have hz0:=(hb2.cell (p:=⟨w.heap.size,0,none⟩) (by simp only;omega)).trans hy0
  have hz1:=(hb2.cell (p:=⟨w.heap.size,1,none⟩) (by simp only;omega)).trans hy1
  have hz2:=(hb2.cell (p:=⟨w.heap.size,2,none⟩) (by simp only;omega)).trans hy2
  have hz3:=(hb2.cell (p:=⟨w.heap.size,3,none⟩) (by simp only;omega)).trans hy3
  have HV2:=Lib.hid (HV.out.below hb2)
  have hs2:=hb2.size
  clear hy0 hy1 hy2 hy3
  by_cases hbig:4096<t.size
  ·have g1:decide ((t.size:Int)>4096)=true:=by simp;omega
   go_wp2_with fail
   refine(rSize_any _ t _ _ (Nat.le_refl _) hmax HV2.out).mono ?_
   rintro e w3⟨rfl,hb3⟩
   go_wp2_with fail
   go_ret
   exact⟨ret_int (by rw[HWF.out,if_neg (by simp),if_pos (.inl hbig)]),b01.trans ((hb2.mono (by omega)).trans (hb3.mono (by omega)))⟩
  ·have g1:decide ((t.size:Int)>4096)=false:=by simp;omega
   go_wp2_with fail
   refine(rSize_any _ t _ _ (Nat.le_refl _) hmax HV2.out).mono ?_
   rintro e w3⟨rfl,hb3⟩
   have hz0:=(hb3.cell (p:=⟨w.heap.size,0,none⟩) (by simp only;omega)).trans hz0
   have hz1:=(hb3.cell (p:=⟨w.heap.size,1,none⟩) (by simp only;omega)).trans hz1
   have hz2:=(hb3.cell (p:=⟨w.heap.size,2,none⟩) (by simp only;omega)).trans hz2
   have hz3:=(hb3.cell (p:=⟨w.heap.size,3,none⟩) (by simp only;omega)).trans hz3
   have HV3:=Lib.hid (HV2.out.below hb3)
   have hs3:=hb3.size
   by_cases hdp:128<t.depth
   ·have g2:decide ((t.depth:Int)>128)=true:=by simp;omega
    go_wp2_with fail
    refine(rDepth_any _ t _ _ (Nat.le_refl _) hmax HV3.out).mono ?_
    rintro e w4⟨rfl,hb4⟩
    go_wp2_with fail
    go_ret
    exact⟨ret_int (by rw[HWF.out,if_neg (by simp),if_pos (.inr hdp)]),b01.trans ((hb2.mono (by omega)).trans ((hb3.mono (by omega)).trans (hb4.mono (by omega))))⟩
   ·have g2:decide ((t.depth:Int)>128)=false:=by simp;omega
    go_wp2_with fail
    refine(rDepth_any _ t _ _ (Nat.le_refl _) hmax HV3.out).mono ?_
    rintro e w4⟨rfl,hb4⟩
    go_wp2_with fail
    go_ret
    exact⟨ret_int (by rw[HWF.out,if_neg (by simp),if_neg (by omega)]),b01.trans ((hb2.mono (by omega)).trans ((hb3.mono (by omega)).trans (hb4.mono (by omega))))⟩
end Go.Proofs.YthajalgkjonaaaaGreatDoor
namespace Go.Proofs.YthajalgkjonaaaaGreatDoor
open Go.RowKit
def NamesAt(w:World)(A:Option Addr)(l:List (List UInt8)):Prop:=0<l.length→∃b o,A=some ⟨b,o,none⟩∧b<w.heap.size∧∀k(h:k<l.length),w.cell? ⟨b,o+k,none⟩=some (S l[k])
theorem NamesAt.below{w w':World}{A:Option Addr}{l:List (List UInt8)}(h:NamesAt w A l)(hb:Below w.heap.size w w'):NamesAt w' A l:=fun hne=>by
 obtain⟨b,o,hA,hlt,h⟩:=h hne
 exact⟨b,o,hA,Nat.lt_of_lt_of_le hlt hb.size,fun k hk=>(hb.cell (p:=⟨b,o+k,none⟩) hlt).trans (h k hk)⟩
theorem mem_at{l:List (List UInt8)}{x:List UInt8}(k:Nat)(h:k<l.length)(e:x=l[k]):decide (x∈l)=true:=by
 subst e;simp
theorem mem_none{l:List (List UInt8)}{x:List UInt8}(h:∀k(h:k<l.length),x≠l[k]):decide (x∈l)=false:=by
 simp only[decide_eq_false_iff_not,List.mem_iff_getElem,not_exists]
 exact fun k hk e=>h k hk e.symm
set_option maxRecDepth 100000 in
set_option maxHeartbeats 1000000 in
theorem index_any(l:List (List UInt8))(x:List UInt8)(A:Option Addr)(c:Nat)(w:World)(hl:l.length≤1000000000)(h:NamesAt w A l) :
  Calls Tryz.prog 187 #[.slice A l.length c,S x] w fun e w'=>∃i:Int,e=.returned (.int .i64 i)∧decide (i≥0)=decide (x∈l)∧w=w':=by
 have HA:=Lib.hid h
 clear h
 go_enter Tryz.func187,Tryz.ntmps187
 go_wp2_with fail
 go_loop [8] (fun i=>∃k:Nat,k≤l.length∧i=.int .i64 k∧Hid (∀j(h:j<l.length),j<k→x≠l[j])) (fun i=>l.length-(intOf i).toNat)
 case atStart=>exact⟨0,by omega,rfl,Lib.hid fun j _ hj=>by omega⟩
 case round =>
  obtain⟨k,hk,rfl,hp⟩:=hrel
  by_cases hlt:k<l.length
  ·obtain⟨b,o,rfl,hb,hcells⟩:=HA.out (by omega)
   have hc:=hcells k hlt
   clear hcells
   obtain⟨q,g1,d1⟩:∃q,(x == l[k])=q∧decide (x=l[k])=q:=⟨_,rfl,by rw[Bool.eq_iff_iff];simp⟩
   cases q
   ·have HD:=Lib.hid (of_decide_eq_false d1)
    clear d1
    go_wp2_with fail
    go_round
    case rel =>
     refine⟨k+1,by omega,by go_num,Lib.hid fun j h hj=>?_⟩
     rcases Nat.lt_or_ge j k with h1 | h1
     ·exact hp.out j h h1
     ·obtain rfl:j=k:=by omega
      exact HD.out
    case measure=>simp[intOf];omega
   ·have HD:=Lib.hid (mem_at k hlt (of_decide_eq_true d1))
    clear d1
    go_wp2_with fail
    go_ret
    exact⟨k,rfl,⟨fun _=>of_decide_eq_true HD.out,fun _=>Int.natCast_nonneg k⟩,rfl⟩
  ·have HD:=Lib.hid (mem_none fun j h=>hp.out j h (by omega))
   go_wp2_with fail
   go_ret
   exact⟨-1,rfl,⟨fun h=>absurd h (by decide),fun h=>absurd h (of_decide_eq_false HD.out)⟩,rfl⟩
set_option maxRecDepth 100000 in
set_option maxHeartbeats 1000000 in
theorem contains_any(l:List (List UInt8))(x:List UInt8)(A:Option Addr)(c:Nat)(w:World)(hl:l.length≤1000000000)(h:NamesAt w A l) :
  Calls Tryz.prog 163 #[.slice A l.length c,S x] w fun e w'=>e=.returned (.bool (decide (x∈l)))∧w=w':=by
 have IH:=Lib.hid (index_any l x A c w hl h)
 clear h
 go_enter Tryz.func163,Tryz.ntmps163
 go_wp2_with fail
 refine IH.out.mono ?_
 rintro e w1⟨i,rfl,hi,rfl⟩
 have HI:=Lib.hid hi
 clear hi
 go_wp2_with fail
 go_ret
 exact⟨ret_bool HI.out,rfl⟩
set_option maxRecDepth 100000 in
set_option maxHeartbeats 1000000 in
theorem rIn_any(l:List (List UInt8))(x:List UInt8)(A:Option Addr)(c:Nat)(w:World)(hl:l.length≤1000000000)(h:NamesAt w A l) :
  Calls Tryz.prog 44 #[.slice A l.length c,S x] w fun e w'=>e=.returned (.bool (decide (x∈l)))∧w=w':=by
 have HA:=Lib.hid h
 clear h
 generalize hd:decide (x∈l)=res at *
 have HR:=Lib.hid hd
 clear hd
 go_enter Tryz.func44,Tryz.ntmps44
 go_wp2_with fail
 go_loop [5] (fun i=>∃k:Nat,k≤l.length∧i=.int .i64 k∧Hid (∀j(h:j<l.length),j<k→x≠l[j])) (fun i=>l.length-(intOf i).toNat)
 case atStart=>exact⟨0,by omega,rfl,Lib.hid fun j _ hj=>by omega⟩
 case round =>
  obtain⟨k,hk,rfl,hp⟩:=hrel
  by_cases hlt:k<l.length
  ·obtain⟨b,o,rfl,hb,hcells⟩:=HA.out (by omega)
   have hc:=hcells k hlt
   clear hcells
   obtain⟨q,g1,d1⟩:∃q,(l[k] == x)=q∧decide (x=l[k])=q:=⟨_,rfl,by rw[Bool.eq_iff_iff];simp;exact eq_comm⟩
   cases q
   ·have HD:=Lib.hid (of_decide_eq_false d1)
    clear d1
    go_wp2_with fail
    go_round
    case rel =>
     refine⟨k+1,by omega,by go_num,Lib.hid fun j h hj=>?_⟩
     rcases Nat.lt_or_ge j k with h1 | h1
     ·exact hp.out j h h1
     ·obtain rfl:j=k:=by omega
      exact HD.out
    case measure=>simp[intOf];omega
   ·have HD:=Lib.hid (mem_at k hlt (of_decide_eq_true d1))
    clear d1
    go_wp2_with fail
    go_ret
    exact⟨ret_bool (by rw[←HR.out,HD.out]),rfl⟩
  ·have HD:=Lib.hid (mem_none fun j h=>hp.out j h (by omega))
   go_wp2_with fail
   go_ret
   exact⟨ret_bool (by rw[←HR.out,HD.out]),rfl⟩
end Go.Proofs.YthajalgkjonaaaaGreatDoor
namespace Go.Proofs.YthajalgkjonaaaaGreatDoor
open Go.RowKit Go.Shelf
theorem info_builder:∃j,Tryz.prog.info? 78=some j∧j.size=2:=by
 obtain⟨j,hj,hs⟩:=Option.map_eq_some_iff.1 (show(Tryz.prog.info? 78).map (·.size)=some 2 by kernel_rfl)
 exact⟨j,hj,hs⟩
theorem under_ptr:Tryz.prog.underlying 76=some (.pointer 78):=by kernel_rfl
set_option maxHeartbeats 1000000 in
set_option maxRecDepth 100000 in
theorem copyCheck_used(b:Nat)(w:World)(h0:w.cell? ⟨b,0,none⟩=some (.pointer (some ⟨b,0,none⟩))) :
  Calls Tryz.prog 55 #[.pointer (some ⟨b,0,none⟩)] w fun e w'=>e=.returned (.tuple #[])∧w'=w:=by
 obtain⟨j,hj,hjs⟩:=info_builder
 go_enter Tryz.func55,Tryz.ntmps55
 go_wp2
 rw[Lib.run_neq_ptr_same w _ under_ptr hj]
 go_wp2
 go_end0
 exact⟨rfl,rfl⟩
set_option maxHeartbeats 1000000 in
set_option maxRecDepth 100000 in
theorem copyCheck_fresh(b:Nat)(w:World)(h0:w.cell? ⟨b,0,none⟩=some (.pointer none))(hsh:w.shape? b=some (78,2))(hfz:w.frozen? ⟨b,0,none⟩=false) :
  Calls Tryz.prog 55 #[.pointer (some ⟨b,0,none⟩)] w fun e w'=>e=.returned (.tuple #[])∧w'=w.setCell ⟨b,0,none⟩ (.pointer (some ⟨b,0,none⟩)):=by
 obtain⟨j,hj,hjs⟩:=info_builder
 have t94:Tryz.prog.underlying 163=some .unsafePointer:=by kernel_rfl
 go_enter Tryz.func55,Tryz.ntmps55
 go_wp2
 rw[Lib.run_to_unsafe w ⟨b,0,none⟩ under_ptr t94 hj (by rw[hjs];decide) hsh (Nat.zero_lt_succ 1)]
 simp only[Result.andThen]
 rw[Oper.upon_value]
 go_wp2
 rw[run_callFunc_extern Tryz.func113 (by kernel_rfl) (by kernel_rfl) (by kernel_rfl) (e:=Extern.AbiNoEscape.same) (by kernel_rfl)]
 rw[Lib.run_noEscape]
 simp only[Result.andThen]
 rw[Oper.upon_value]
 go_wp2
 rw[Lib.run_from_unsafe w ⟨b,0,none⟩ t94 under_ptr hj hsh (by kernel_rfl)]
 simp only[Result.andThen]
 rw[Oper.upon_value]
 go_wp2
 go_end0
 exact⟨rfl,rfl⟩
def Bld(B b:Nat)(l:List UInt8)(w:World):Prop:=Lib.IsBuilderF 78 5 B b (Lib.byteCells l) w
def Kept(b:Nat)(w w':World):Prop:=Lib.OthersKept 5 (some b) w w'
theorem Kept.cells{b:Nat}{w w':World}(h:Kept b w w'){k:Nat}{c:Array Value}{t:TypeId}(hk:w.heap[k]?=some (.cells c t (0,0)))(hb:k≠b)(ht:t≠5):w'.heap[k]?=some (.cells c t (0,0)) :=
 h k _ hk (by simpa using hb) (by intro c' fz e;cases e;exact ht rfl)
theorem copyCheck_any(B b:Nat)(l:List UInt8)(w:World)(h:Bld B b l w) :
  Calls Tryz.prog 55 #[.pointer (some ⟨b,0,none⟩)] w fun e w'=>e=.returned (.tuple #[])∧Lib.BuilderAtF 78 5 B b (.pointer (some ⟨b,0,none⟩)) (Lib.byteCells l) w'∧Below B w w'∧Kept b w w':=by
 rcases h with h | h
 ·refine(copyCheck_fresh b w h.cell0 h.shape h.frozen0).mono ?_
  rintro e w'⟨rfl,rfl⟩
  exact⟨rfl,h.used _,(Below.refl B w).setCell (p:=⟨b,0,none⟩) h.1 _,(Lib.OthersKept.refl _ _ w).setCell ⟨b,0,none⟩ rfl _⟩
 ·refine(copyCheck_used b w h.cell0).mono ?_
  rintro e w'⟨rfl,rfl⟩
  exact⟨rfl,h,Below.refl B _,Lib.OthersKept.refl _ _ _⟩
set_option maxHeartbeats 2000000 in
set_option maxRecDepth 100000 in
theorem writeString_any(B b:Nat)(acc l:List UInt8)(w:World)(h:Bld B b acc w)(hlen:acc.length+l.length≤140737488355328)(hBw:B≤w.heap.size) :
  Calls Tryz.prog 28 #[.pointer (some ⟨b,0,none⟩),S l] w fun e w'=>e=.returned (.tuple #[.int .i64 l.length,.nilIface])∧Bld B b (acc++l) w'∧Below B w w'∧Kept b w w':=by
 obtain⟨i0,hi,hz0,hz1,hz2⟩:=info_parts (show(Tryz.prog.info? 5).map (fun i=>(i.zero,i.size,i.bytes))=some (some (.int .u8 0),1,1) by kernel_rfl)
 have t37:Tryz.prog.underlying 68=some (.slice 5):=by kernel_rfl
 have t9:Tryz.prog.underlying 9=some .string:=by kernel_rfl
 have HC:=Lib.hid (copyCheck_any B b acc w h)
 clear h
 go_enter Tryz.func28,Tryz.ntmps28
 go_wp2_with fail
 refine HC.out.mono ?_
 rintro e w1⟨rfl,h1,hb1,hk1⟩
 obtain⟨hB,v,hbk,hown,hne⟩:=h1
 have c0:w1.cell? ⟨b,0,none⟩=some (.pointer (some ⟨b,0,none⟩)):=by rw[Lib.cell_of_heap hbk];rfl
 have c1:w1.cell? ⟨b,1,none⟩=some v:=by rw[Lib.cell_of_heap hbk];rfl
 go_wp2_with (at_builtin;refine Lib.wpList_append_own_stringF _ rfl _ _ 68 9 rfl B 5 i0 t37 t9 hi hz0 hz1 hz2 _ _ _ rfl hown ⟨l.toArray⟩ rfl ?c3 ?c4 ?c5 ?_)
 case c3=>simp only[Lib.byteCells_length];show acc.length+l.toArray.size≤maxLen;unfold maxLen;simp;omega
 case c4=>simp only[Lib.byteCells_length];show acc.length+l.toArray.size≤_;simp;omega
 case c5=>have:=hb1.size;omega
 intro v' w2 hown' hgrow _
 have hlt:b<w1.heap.size:=by
  rcases Nat.lt_or_ge b w1.heap.size with h' | h'
  ·exact h'
  ·simp[Array.getElem?_eq_none h'] at hbk
 have hb2:w2.heap[b]?=some (.cells #[.pointer (some ⟨b,0,none⟩),v] 78 (0,0)):=by
  rw[hgrow.block b hlt (fun e=>hne e.symm)]
  exact hbk
 have d0:w2.cell? ⟨b,0,none⟩=some (.pointer (some ⟨b,0,none⟩)):=by rw[Lib.cell_of_heap hb2];rfl
 have d1:w2.cell? ⟨b,1,none⟩=some v:=by rw[Lib.cell_of_heap hb2];rfl
 have f1:w2.frozen? ⟨b,1,none⟩=false:=Lib.frozen_of_heap hb2 1
 obtain⟨ao,n',cap,rfl⟩:∃ao n' cap,v'=.slice ao n' cap:=by
  rcases hown'.2 with⟨hv,_⟩ | ⟨g,cap,cur,fz,hv,_⟩
  ·exact⟨_,_,_,hv⟩
  ·exact⟨_,_,_,hv⟩
 have hcells:Lib.byteCells acc++Lib.strCells ⟨l.toArray⟩=Lib.byteCells (acc++l):=by rw[Lib.byteCells_append];rfl
 have hput:=Lib.BuilderAtF.put (T:=78) (e:=5) hB hb2 (bs':=Lib.byteCells (acc++l)) (by rw[hcells] at hown';simpa[Lib.byteCells_length] using hown') (by decide)
 have hbel:=(hb1.grown hgrow (by have:=hb1.size;omega) (fun k hk=>(hown.lt k hk).1)).setCell (p:=⟨b,1,none⟩) hB (.slice ao n' cap)
 have hkept:=(hk1.grown hgrow (Lib.ownsRowF_kind hown)).setCell ⟨b,1,none⟩ rfl (.slice ao n' cap)
 clear hown hown' hgrow hcells
 go_wp2_with fail
 go_ret2
 exact⟨rfl,.inr hput,hbel,hkept⟩
theorem string_any(B b:Nat)(l:List UInt8)(w:World)(h:Bld B b l w)(hBw:B≤w.heap.size) :
  Calls Tryz.prog 30 #[.pointer (some ⟨b,0,none⟩)] w fun e w'=>e=.returned (S l)∧Bld B b l w'∧Below B w w'∧Kept b w w' :=
 Any.Builder_String_any_k Tryz.lays169 Tryz.Builder_Extra_169 B b l w h hBw
theorem bld_new(w:World):Bld w.heap.size w.heap.size [] (w.alloc (.cells #[.pointer none,.slice none 0 0] 78)) :=
 .inl ⟨Nat.le_refl _,.slice none 0 0,heap_alloc_new w _,⟨by simp,.inl ⟨rfl,rfl⟩⟩,by simp[Value.ownBlock]⟩
end Go.Proofs.YthajalgkjonaaaaGreatDoor
