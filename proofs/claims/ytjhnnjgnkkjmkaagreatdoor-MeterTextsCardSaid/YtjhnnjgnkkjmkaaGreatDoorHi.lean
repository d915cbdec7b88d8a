/- Cores: do. No condition but that complex numbers are reckoned by some function. -/
import Derived.Test.YtjhnnjgnkkjmkaaGreatDoorHh
set_option maxHeartbeats 4000000
set_option maxRecDepth 100000
set_option linter.unusedVariables false
set_option linter.unusedSimpArgs false
namespace Go.Proofs.YtjhnnjgnkkjmkaaGreatDoor
open Go.RowKit Go.RR
theorem kd_reck {o:Int} (h0:0≤o) (h1:o≤34) (h:kd o = .I∨kd o = .RI∨kd o = .R∨kd o = .U):1≤o∧o≤14:=by
 obtain ⟨n,rfl⟩:∃n:Nat,o=n:=⟨o.toNat,by omega⟩
 have hn:n<35:=by omega
 have:∀n:Nat,n<35→(kd n = .I∨kd n = .RI∨kd n = .R∨kd n = .U)→1≤n∧n≤14:=by decide
 have:=this n hn h
 omega
theorem overF_form (c:Cor) (u:Mu) (i:In) (pick:Int):((overF c u i pick).1.cause = -1∧(overF c u i pick).1.done=true∧(overF c u i pick).2.1.pc=(c.pc+4)%18446744073709551616)∨
  ((overF c u i pick).1.cause≠-1∧(overF c u i pick).1.done=false∧(overF c u i pick).2.1.pc=c.pc):=by
 unfold overF
 dsimp only
 split
 ·split
  ·exact .inr ⟨by assumption,rfl,rfl⟩
  ·exact .inl ⟨rfl,rfl,rfl⟩
 ·split
  ·split
   ·exact .inr ⟨by assumption,rfl,rfl⟩
   ·exact .inl ⟨rfl,rfl,rfl⟩
  ·split
   ·exact .inr ⟨by assumption,rfl,rfl⟩
   ·exact .inl ⟨rfl,rfl,rfl⟩
theorem do_any {X:Cx} {w:World} {SM SB:Nat→Prop} {cb db ub mb bb:Nat} {c:Cor} {u:Mu} (hc:CoreAt w cb c) (hu:MuAt w SM SB ub mb bb u) (i:In) (hX:CxFor X i.op) (hi:i.Ok) (hd:DidAt w db ⟨false,i,c.pc,-1,0,0,0,0,0⟩)
  (hf:Far SM SB cb db ub) (hsm:∀k,SM k→k<w.heap.size) (pick:Int) (p1 : -9223372036854775808≤pick) (p2:pick≤9223372036854775807) :
  Calls Tryz.prog 172 #[.pointer (some ⟨cb,0,none⟩),.pointer (some ⟨ub,0,none⟩),.pointer (some ⟨db,0,none⟩),.int .i64 pick] w (RetW (.tuple #[]) fun w'=>
   DidAt w' db (doF X c u i pick).1∧CoreAt w' cb (doF X c u i pick).2.1∧MuAt w' (Grow SM w) SB ub mb bb (doF X c u i pick).2.2∧Chg (fun k=>k=cb∨k=db∨SM k∨SB k) w w'):=by
 obtain ⟨o,rd,rs,rt,im⟩:=i
 have f1:=hd.cell' (i:=1) (v:=.int .i64 o) rfl
 have f2:=hd.cell' (i:=2) (v:=.int .i64 rd) rfl
 have f3:=hd.cell' (i:=3) (v:=.int .i64 rs) rfl
 have f4:=hd.cell' (i:=4) (v:=.int .i64 rt) rfl
 have f5:=hd.cell' (i:=5) (v:=.int .i64 im) rfl
 have fl:=hd.lt
 have hcl:=hc.blk.lt
 have hB:=Blk.new w #[.int .i64 o,.int .i64 rd,.int .i64 rs,.int .i64 rt,.int .i64 im] 50
 have hA:Chg NoB w (w.alloc (.cells #[.int .i64 o,.int .i64 rd,.int .i64 rs,.int .i64 rt,.int .i64 im] 50)):=(Chg.refl NoB w).alloc _
 have HK:=Lib.hid (fun w=>kind_any o w)
 obtain ⟨k,hk⟩:∃k,kd o=k:=⟨_,rfl⟩
 rw [hk] at HK
 have HKd:=Lib.hid hk
 have HC:=Lib.hid hc
 have HU:=Lib.hid hu
 have HD:=Lib.hid hd
 have HF:=Lib.hid hf
 have HSM:=Lib.hid hsm
 have HI:=Lib.hid hi
 obtain ⟨O,hO⟩:∃O,doF X c u ⟨o,rd,rs,rt,im⟩ pick=O:=⟨_,rfl⟩
 have HO:Hid (O=doF X c u ⟨o,rd,rs,rt,im⟩ pick):=Lib.hid hO.symm
 rw [hO]
 clear hk hc hu hd hf hsm hi hO;go_enter Tryz.func172,Tryz.ntmps172;go_upto_region 1 with fail;generalize hwA:w.alloc (.cells #[.int .i64 o,.int .i64 rd,.int .i64 rs,.int .i64 rt,.int .i64 im] 50)=wA at *;obtain ⟨ib,hib⟩:∃ib,w.heap.size=ib:=⟨_,rfl⟩
 have HIB:Hid (ib=w.heap.size):=Lib.hid hib.symm
 rw [hib] at hB fl hcl
 simp only [hib]
 have HCA:=Lib.hid (HC.out.chg hA id)
 have HUA:=Lib.hid (HU.out.chg0 hA)
 have HDA:Hid (DidAt wA db ⟨false,⟨o,rd,rs,rt,im⟩,c.pc,-1,0,0,0,0,0⟩):=Lib.hid (hA.blk0 HD.out)
 have HA:=Lib.hid hA
 have HBI:=Lib.hid hB
 have i0:=hB.cell' (i:=0) (v:=.int .i64 o) rfl
 have il:=hB.lt
 clear hwA hib hB hA f1 f2 f3 f4 f5;have hkz:=HI.out.k
 rw [HKd.out] at hkz
 by_cases hm:k = .L∨k = .S∨k = .A
 ·have HV:=Lib.hid (over_any HCA.out HUA.out ⟨o,rd,rs,rt,im⟩ HI.out HDA.out HF.out (fun j hj=>Nat.lt_of_lt_of_le (HSM.out j hj) HA.out.size) (by rw [HKd.out];exact hm) pick p1 p2)
  obtain ⟨R,hR⟩:∃R,overF c u ⟨o,rd,rs,rt,im⟩ pick=R:=⟨_,rfl⟩
  rw [hR] at HV
  have HO2:Hid (O=R):=Lib.hid (by rw [HO.out,←hR];unfold doF;rw [HKd.out,if_pos hm])
  have hfm:=overF_form c u ⟨o,rd,rs,rt,im⟩ pick
  rw [hR] at hfm
  obtain ⟨⟨dn,di,dp,dc,da,dad,ds,dol,dne⟩,c1,u1⟩:=R
  dsimp only at hfm HV
  have HFM:=Lib.hid hfm
  clear hfm hR hkz;rcases hm with rfl | rfl | rfl
  all_goals
   go_wp2_with fail;refine (HK.out _).mono ?_
   rintro e w3 ⟨rfl,hw3⟩;subst hw3;simp only [Kd.s]
   go_wp2_with fail;refine HV.out.mono ?_
   rintro e w4 ⟨rfl,hD4,hC4,hM4,c4⟩;have HD4:=Lib.hid hD4
   have HC4:=Lib.hid hC4
   have HM4:=Lib.hid (hM4.reGrow (w:=w) HA.out.size HU.out.blk.lt HU.out.n4)
   have HW4:Hid (Chg (fun k=>k=cb∨k=db∨SM k∨SB k) w w4):=Lib.hid ((HA.out.mono fun _ _ e=>e.elim).step c4)
   have y7:=hD4.cell' (i:=7) (v:=.int .i64 (-1)) rfl
   have z4:=hD4.frozen
   have l4:=hD4.lt
   clear hD4 hC4 hM4 c4 i0 il;rcases HFM.out with ⟨rfl,e2,e3⟩ | ⟨e1,e2,e3⟩
   ·have y16:=HC4.out.blk.cell' (i:=16) (v:=.int .u64 c.pc) rfl
    have zc:=HC4.out.blk.frozen
    have lc:=HC4.out.blk.lt
    have y0:=HD4.out.cell' (i:=0) (v:=.bool false) rfl
    have n1:¬cb=db:=HF.out.cd
    have n2:¬db=cb:=fun e=>HF.out.cd e.symm
    obtain ⟨np,hnp⟩:∃n,c1.pc=n:=⟨_,rfl⟩
    have hnl:np<18446744073709551616:=by rw [←hnp,e3];exact Nat.mod_lt _ (by omega)
    have q1:IntKind.u64.wrap ((c.pc:Int)+4)=(np:Int):=by rw [IntKind.wrap_u64];omega
    have hc1:({ ({ c1 with pc:=c.pc} : Cor) with pc:=np} : Cor)=c1:=by rw [←hnp]
    have C5:=((HC4.out.chg ((Chg.refl (fun k=>k=db) w4).setCell (a:=⟨db,7,none⟩) (.inl rfl) (.int .i64 (-1))) HF.out.cd).setPc hnl)
    rw [hc1] at C5
    have HC5:=Lib.hid (C5.chg ((Chg.refl (fun k=>k=db) _).setCell (a:=⟨db,0,none⟩) (.inl rfl) (.bool true)) HF.out.cd)
    have HD5:=Lib.hid (((HD4.out.set 7 (.int .i64 (-1))).set_ne (a:=⟨cb,16,none⟩) n2 (.int .u64 np)).set 0 (.bool true))
    have cS:Chg (fun k=>k=cb∨k=db) w4 (((w4.setCell ⟨db,7,none⟩ (.int .i64 (-1))).setCell ⟨cb,16,none⟩ (.int .u64 np)).setCell ⟨db,0,none⟩ (.bool true)):=(((Chg.refl (fun k=>k=cb∨k=db) w4).setCell (a:=⟨db,7,none⟩) (.inl (.inr rfl)) _).setCell (a:=⟨cb,16,none⟩) (.inl (.inl rfl)) _).setCell (a:=⟨db,0,none⟩) (.inl (.inr rfl)) _
    have hng:∀k,Grow SM w k→k≠cb∧k≠db:=fun k hk=>hk.elim (fun hk=>⟨fun e=>HF.out.cm (e▸hk),fun e=>HF.out.dm (e▸hk)⟩) fun hk=>⟨fun e=>by have:=HC.out.blk.lt;omega,fun e=>by have:=HD.out.lt;omega⟩
    have HM5:=Lib.hid (HM4.out.chg cS (fun e=>e.elim (fun e=>HF.out.cu e.symm) (fun e=>HF.out.du e.symm)) (fun k hk e=>e.elim (hng k hk).1 (hng k hk).2) (fun k hk e=>e.elim (fun e=>HF.out.cB (e▸hk)) (fun e=>HF.out.dB (e▸hk))))
    have HW5:=Lib.hid (HW4.out.step (cS.mono fun k _ e=>e.elim .inl fun e=>.inr (.inl e)))
    clear hng cS C5 hc1 hnp hnl e3;subst e2;go_wp2_with fail;go_end0
    exact ⟨rfl,by rw [HO2.out];exact HD5.out,by rw [HO2.out];exact HC5.out,by rw [HO2.out];exact HM5.out,HW5.out⟩
   ·have t1:(dc != -1)=true:=by simpa using e1
    subst e2;have hc1:({ c1 with pc:=c.pc} : Cor)=c1:=by rw [←e3]
    go_wp2_with fail;refine bodyPost_ret (results_none rfl _ _ _) rfl ?_
    have cS:Chg (fun k=>k=db) w4 (w4.setCell ⟨db,7,none⟩ (.int .i64 dc)):=(Chg.refl (fun k=>k=db) w4).setCell (a:=⟨db,7,none⟩) (.inl rfl) _
    have hng:∀k,Grow SM w k→k≠db:=fun k hk=>hk.elim (fun hk=>fun e=>HF.out.dm (e▸hk)) fun hk=>fun e=>by have:=HD.out.lt;omega
    refine ⟨rfl,by rw [HO2.out];exact HD4.out.set 7 (.int .i64 dc),?_,?_,HW4.out.step (cS.mono fun k _ e=>.inr (.inl e))⟩
    ·rw [HO2.out]
     have:=HC4.out.chg cS HF.out.cd
     rw [hc1] at this
     exact this
    ·rw [HO2.out]
     exact HM4.out.chg cS (fun e=>HF.out.du e.symm) (fun k hk=>hng k hk) (fun k hk e=>HF.out.dB (e▸hk))
 ·have hng:∀k,Grow SM w k→k≠cb∧k≠db:=fun k hk=>hk.elim (fun hk=>⟨fun e=>HF.out.cm (e▸hk),fun e=>HF.out.dm (e▸hk)⟩) fun hk=>⟨fun e=>by have:=HC.out.blk.lt;omega,fun e=>by have:=HD.out.lt;omega⟩
  have HNG:=Lib.hid hng
  have HMA:=Lib.hid (HUA.out.growS (w:=w) HU.out.blk.lt HU.out.n4)
  have i1:=HBI.out.cell' (i:=1) (v:=.int .i64 rd) rfl
  have i2:=HBI.out.cell' (i:=2) (v:=.int .i64 rs) rfl
  have i3:=HBI.out.cell' (i:=3) (v:=.int .i64 rt) rfl
  have i4:=HBI.out.cell' (i:=4) (v:=.int .i64 im) rfl
  clear hng;by_cases hj:k = .B∨k = .J
  ·have HJ:=Lib.hid (jump_any HCA.out ⟨o,rd,rs,rt,im⟩ HI.out)
   have HO2:Hid (O=(⟨true,⟨o,rd,rs,rt,im⟩,c.pc,-1,0,0,0,0,0⟩,jumpF c ⟨o,rd,rs,rt,im⟩,u)):=Lib.hid (by rw [HO.out];unfold doF;rw [HKd.out,if_neg hm,if_pos hj])
   clear hm hkz;rcases hj with rfl | rfl
   all_goals
    go_wp2_with fail;refine (HK.out _).mono ?_
    rintro e w3 ⟨rfl,hw3⟩;subst hw3;simp only [Kd.s]
    go_wp2_with fail;refine HJ.out.mono ?_
    rintro e w4 ⟨rfl,h4,c4⟩;have HD4:=Lib.hid (c4.blk HDA.out (fun e=>HF.out.cd e.symm))
    have HC4:=Lib.hid h4
    have HHC4:=Lib.hid c4
    have y0:=HD4.out.cell' (i:=0) (v:=.bool false) rfl
    have z4:=HD4.out.frozen
    have l4:=HD4.out.lt
    clear i0 i1 i2 i3 i4 il h4 c4;go_wp2_with fail;refine bodyPost_ret (results_none rfl _ _ _) rfl ?_
    have cS:Chg (fun k=>k=db) w4 (w4.setCell ⟨db,0,none⟩ (.bool true)):=(Chg.refl (fun k=>k=db) w4).setCell (a:=⟨db,0,none⟩) (.inl rfl) _
    refine ⟨rfl,by rw [HO2.out];exact HD4.out.set 0 (.bool true),by rw [HO2.out];exact HC4.out.chg cS HF.out.cd,?_,((HA.out.mono fun _ _ e=>e.elim).step (HHC4.out.mono fun k _ e=>.inl e)).step (cS.mono fun k _ e=>.inr (.inl e))⟩
    rw [HO2.out]
    exact (HMA.out.chg HHC4.out (fun e=>HF.out.cu e.symm) (fun k hk=>(HNG.out k hk).1) (fun k hk e=>HF.out.cB (e▸hk))).chg cS (fun e=>HF.out.du e.symm) (fun k hk=>(HNG.out k hk).2) (fun k hk e=>HF.out.dB (e▸hk))
  ·by_cases hN:k = .N
   ·subst hN;by_cases ho:o=0
    ·subst ho;have HO2:Hid (O=(⟨true,⟨0,rd,rs,rt,im⟩,c.pc,-1,0,0,0,0,0⟩,{ c with run:=1},u)):=Lib.hid (by rw [HO.out];unfold doF;rw [HKd.out];rfl)
     have y17:=HCA.out.blk.cell' (i:=17) (v:=.int .i64 c.run) rfl
     have zc:=HCA.out.blk.frozen
     have lc:=HCA.out.blk.lt
     have y0:=HDA.out.cell' (i:=0) (v:=.bool false) rfl
     have zd:=HDA.out.frozen
     have ld:=HDA.out.lt
     have n1:¬cb=db:=HF.out.cd
     have n2:¬db=cb:=fun e=>HF.out.cd e.symm
     clear hm hj hkz;go_wp2_with (refine (HK.out _).mono ?_;rintro e w3 ⟨rfl,hw3⟩;subst hw3;simp only [Kd.s])
     refine bodyPost_ret (results_none rfl _ _ _) rfl ?_
     have cS:Chg (fun k=>k=cb∨k=db) wA ((wA.setCell ⟨cb,17,none⟩ (.int .i64 1)).setCell ⟨db,0,none⟩ (.bool true)):=((Chg.refl (fun k=>k=cb∨k=db) wA).setCell (a:=⟨cb,17,none⟩) (.inl (.inl rfl)) _).setCell (a:=⟨db,0,none⟩) (.inl (.inr rfl)) _
     refine ⟨rfl,by rw [HO2.out];exact (HDA.out.set_ne (a:=⟨cb,17,none⟩) n2 (.int .i64 1)).set 0 (.bool true),by rw [HO2.out];exact (HCA.out.setRun 1).chg ((Chg.refl (fun k=>k=db) _).setCell (a:=⟨db,0,none⟩) (.inl rfl) (.bool true)) HF.out.cd,?_,(HA.out.mono fun _ _ e=>e.elim).step (cS.mono fun k _ e=>e.elim .inl fun e=>.inr (.inl e))⟩
     rw [HO2.out]
     exact HMA.out.chg cS (fun e=>e.elim (fun e=>HF.out.cu e.symm) (fun e=>HF.out.du e.symm)) (fun k hk e=>e.elim (HNG.out k hk).1 (HNG.out k hk).2) (fun k hk e=>e.elim (fun e=>HF.out.cB (e▸hk)) (fun e=>HF.out.dB (e▸hk)))
    ·have t1:(o == 0)=false:=beq_eq_false_iff_ne.2 ho
     obtain ⟨np,hnp⟩:∃n,(c.pc+4)%18446744073709551616=n:=⟨_,rfl⟩
     have hnl:np<18446744073709551616:=by omega
     have q1:IntKind.u64.wrap ((c.pc:Int)+4)=(np:Int):=by rw [IntKind.wrap_u64];omega
     have HO2:Hid (O=(⟨true,⟨o,rd,rs,rt,im⟩,c.pc,-1,0,0,0,0,0⟩,{ c with pc:=np},u)):=Lib.hid (by rw [HO.out];unfold doF;rw [HKd.out,if_neg hm,if_neg hj];dsimp only;rw [if_neg (fun e=>ho e.2),if_pos rfl,hnp])
     have y16:=HCA.out.blk.cell' (i:=16) (v:=.int .u64 c.pc) rfl
     have zc:=HCA.out.blk.frozen
     have lc:=HCA.out.blk.lt
     have y0:=HDA.out.cell' (i:=0) (v:=.bool false) rfl
     have zd:=HDA.out.frozen
     have ld:=HDA.out.lt
     have n1:¬cb=db:=HF.out.cd
     have n2:¬db=cb:=fun e=>HF.out.cd e.symm
     have HC5:=Lib.hid (HCA.out.setPc hnl)
     clear hm hj hkz ho hnp hnl;go_wp2_with (refine (HK.out _).mono ?_;rintro e w3 ⟨rfl,hw3⟩;subst hw3;simp only [Kd.s])
     go_end0
     have cS:Chg (fun k=>k=cb∨k=db) wA ((wA.setCell ⟨cb,16,none⟩ (.int .u64 np)).setCell ⟨db,0,none⟩ (.bool true)):=((Chg.refl (fun k=>k=cb∨k=db) wA).setCell (a:=⟨cb,16,none⟩) (.inl (.inl rfl)) _).setCell (a:=⟨db,0,none⟩) (.inl (.inr rfl)) _
     refine ⟨rfl,by rw [HO2.out];exact (HDA.out.set_ne (a:=⟨cb,16,none⟩) n2 (.int .u64 np)).set 0 (.bool true),by rw [HO2.out];exact HC5.out.chg ((Chg.refl (fun k=>k=db) _).setCell (a:=⟨db,0,none⟩) (.inl rfl) (.bool true)) HF.out.cd,?_,(HA.out.mono fun _ _ e=>e.elim).step (cS.mono fun k _ e=>e.elim .inl fun e=>.inr (.inl e))⟩
     rw [HO2.out]
     exact HMA.out.chg cS (fun e=>e.elim (fun e=>HF.out.cu e.symm) (fun e=>HF.out.du e.symm)) (fun k hk e=>e.elim (HNG.out k hk).1 (HNG.out k hk).2) (fun k hk e=>e.elim (fun e=>HF.out.cB (e▸hk)) (fun e=>HF.out.dB (e▸hk)))
   ·have hr:kd o = .I∨kd o = .RI∨kd o = .R∨kd o = .U:=by
     rw [HKd.out]
     cases k <;> simp at hm hj hN hkz ⊢
    have hop:=kd_reck HI.out.o0 HI.out.o1 hr
    have hk1:=HI.out.s0
    have hk2:=HI.out.s1
    have hk3:=HI.out.t0
    have hk4:=HI.out.t1
    dsimp only at hk1 hk2 hk3 hk4
    obtain ⟨q,rfl⟩:∃q:Nat,rs=q:=⟨rs.toNat,by omega⟩
    obtain ⟨p,rfl⟩:∃p:Nat,rt=p:=⟨rt.toNat,by omega⟩
    have hq:q<16:=by omega
    have hp:p<16:=by omega
    have e1:=HCA.out.ever hq
    have e2:=HCA.out.ever hp
    have el:∀w',Chg NoB wA w'→cb<w'.heap.size:=fun w' k=>(HCA.out.chg k id).blk.lt
    have g:=HBI.out.ever
    have gl:=HBI.out.everL
    have HR:=Lib.hid (fun w=>reckon_any ⟨o,rd,q,p,im⟩ hX hop ⟨HI.out.i0,HI.out.i1⟩ (c.r q) (c.r p) (HC.out.lt q) (HC.out.lt p) w)
    have hrl:=reckonF_lt ⟨o,rd,q,p,im⟩ hX (HC.out.lt q) (HC.out.lt p)
    obtain ⟨rv,hrv⟩:∃r,reckonF X ⟨o,rd,q,p,im⟩ (c.r q) (c.r p)=r:=⟨_,rfl⟩
    rw [hrv] at HR hrl
    have a1:IntKind.i64.wrap (q:Int)=q:=IntWalk.i64_in _ (by omega)
    have a2:IntKind.i64.wrap (p:Int)=p:=IntWalk.i64_in _ (by omega)
    have a3:(q:Int)<16:=by omega
    have a4:(p:Int)<16:=by omega
    have a5:(q:Int).toNat=q:=Int.toNat_natCast q
    have a6:(p:Int).toNat=p:=Int.toNat_natCast p
    have cc:=Chg.refl NoB wA
    have HO2:Hid (O=(⟨true,⟨o,rd,q,p,im⟩,c.pc,-1,0,0,0,0,0⟩,{ (c.set rd rv) with pc:=(c.pc+4)%18446744073709551616},u)):=Lib.hid (by
     rw [HO.out];unfold doF;rw [HKd.out,if_neg hm,if_neg hj];dsimp only
     rw [if_neg (fun e=>hN e.1),if_neg hN,Int.toNat_natCast,Int.toNat_natCast,hrv])
    have hkn:k = .I∨k = .RI∨k = .R∨k = .U:=by rw [←HKd.out];exact hr
    clear hm hj hkz hN hr hop hk2 hk4 hq hp hrv;rcases hkn with rfl | rfl | rfl | rfl
    all_goals
     go_upto_region 2 with (refine (HK.out _).mono ?_;rintro e w3 ⟨rfl,hw3⟩;subst hw3;simp only [Kd.s])
     refine wp_region_mix 20 [(true,0),(true,1),(true,2),(true,3),(true,4),(true,5),(true,6),(true,7),(true,8),(true,9),(true,10),(true,11),(true,12),(true,13),(true,14),(false,15),(true,16),(true,17),(true,18),(false,19)] (fun w'=>Chg NoB wA w') (by kernel_rfl) (by kernel_rfl) (fun _ _ _ _ _ h=>h) (cc.drew) ?_
     simp only [pickMix_nil,pickMix_cons,Option.getD_some,List.getElem?_toArray,List.getElem?_cons_zero,List.getElem?_cons_succ,List.cons_append,List.nil_append,List.drop_succ_cons,List.drop_zero]
     iterate 15
      refine wpMix_take rfl ?_;apply Exists.intro;refine ⟨fun wS hS=>?_,?_⟩
      ·try dsimp only at hS
       have cS:=hS
       go_simp;try rfl
      simp only [Act.put,List.setIfInBounds_toArray,List.set_cons_zero,List.set_cons_succ]
     refine wpMix_force rfl (fun K hK=>?_)
     go_simp;refine (HR.out _).mono ?_
     rintro e w4 ⟨rfl,hC4⟩;have c4:Chg NoB wA w4:=cc.drew.step hC4
     refine hK _ _ c4 ?_
     clear hK K hC4;iterate 3
      refine wpMix_take rfl ?_;apply Exists.intro;refine ⟨fun wS hS=>?_,?_⟩
      ·try dsimp only at hS
       have cS:=hS
       go_simp;try rfl
      simp only [Act.put,List.setIfInBounds_toArray,List.set_cons_zero,List.set_cons_succ]
     refine wpMix_force rfl (fun K hK=>?_)
     go_simp;refine hK _ _ c4 ?_
     clear hK K;refine wpMix_nil ?_
     have HSt:=Lib.hid (coreSet_any (HCA.out.chg c4 id) rd rv hrl)
     have i1:=g w4 c4 1
     have il:=gl w4 c4
     go_wp2_with fail;refine HSt.out.mono ?_
     rintro e w5 ⟨rfl,h5,c5⟩;have C5:Chg (fun k=>k=cb) wA w5:=(c4.mono fun _ _ e=>e.elim).step c5
     have HD5:=Lib.hid (C5.blk HDA.out (fun e=>HF.out.cd e.symm))
     have HC5:=Lib.hid h5
     have HHC5:=Lib.hid C5
     obtain ⟨np,hnp⟩:∃n,(c.pc+4)%18446744073709551616=n:=⟨_,rfl⟩
     have hnl:np<18446744073709551616:=by omega
     have q1:IntKind.u64.wrap ((c.pc:Int)+4)=(np:Int):=by rw [IntKind.wrap_u64];omega
     have hpc:(c.set rd rv).pc=c.pc:=by rw [←Cor.set_pc]
     have y16:=h5.blk.cell' (i:=16) (v:=.int .u64 c.pc) (by rw [←hpc];rfl)
     have zc:=h5.blk.frozen
     have lc:=h5.blk.lt
     have y0:=HD5.out.cell' (i:=0) (v:=.bool false) rfl
     have zd:=HD5.out.frozen
     have ld:=HD5.out.lt
     have n1:¬cb=db:=HF.out.cd
     have n2:¬db=cb:=fun e=>HF.out.cd e.symm
     have HC6:=Lib.hid (h5.setPc hnl)
     rw [hnp] at HO2
     clear h5 C5 c5 c4 cc i0 i1 i2 i3 i4 il g gl e1 e2 el HSt HR hnp hnl hpc;go_wp2_with fail;go_end0
     have cS:Chg (fun k=>k=cb∨k=db) w5 ((w5.setCell ⟨cb,16,none⟩ (.int .u64 np)).setCell ⟨db,0,none⟩ (.bool true)):=((Chg.refl (fun k=>k=cb∨k=db) w5).setCell (a:=⟨cb,16,none⟩) (.inl (.inl rfl)) _).setCell (a:=⟨db,0,none⟩) (.inl (.inr rfl)) _
     refine ⟨rfl,by rw [HO2.out];exact (HD5.out.set_ne (a:=⟨cb,16,none⟩) n2 (.int .u64 np)).set 0 (.bool true),by rw [HO2.out];exact HC6.out.chg ((Chg.refl (fun k=>k=db) _).setCell (a:=⟨db,0,none⟩) (.inl rfl) (.bool true)) HF.out.cd,?_,((HA.out.mono fun _ _ e=>e.elim).step (HHC5.out.mono fun k _ e=>.inl e)).step (cS.mono fun k _ e=>e.elim .inl fun e=>.inr (.inl e))⟩
     rw [HO2.out]
     exact (HMA.out.chg HHC5.out (fun e=>HF.out.cu e.symm) (fun k hk=>(HNG.out k hk).1) (fun k hk e=>HF.out.cB (e▸hk))).chg cS (fun e=>e.elim (fun e=>HF.out.cu e.symm) (fun e=>HF.out.du e.symm)) (fun k hk e=>e.elim (HNG.out k hk).1 (HNG.out k hk).2) (fun k hk e=>e.elim (fun e=>HF.out.cB (e▸hk)) (fun e=>HF.out.dB (e▸hk)))
end Go.Proofs.YtjhnnjgnkkjmkaaGreatDoor
