/- Cores: Try. No condition but that complex numbers are reckoned by some function. A space, a core that runs in it: the unit behind a try. No condition. -/
import Derived.Test.YtjhnnjgnkkjmkaaGreatDoorHi
import Derived.Test.YtjhnnjgnkkjmkaaGreatDoorGy
set_option maxHeartbeats 4000000
set_option maxRecDepth 100000
set_option linter.unusedVariables false
set_option linter.unusedSimpArgs false
namespace Go.Proofs.YtjhnnjgnkkjmkaaGreatDoor
open Go.RowKit Go.RR
theorem chg_sets {S:Nat→Prop} {w w':World} (h:Chg S w w') {b:Nat} (hb:S b∨w.heap.size≤b):∀l:List (Nat×Value),Chg S w (l.foldl (fun w x=>w.setCell ⟨b,x.1,none⟩ x.2) w')
 | []=>h
 | x :: l=>chg_sets (h.setCell (a:=⟨b,x.1,none⟩) hb x.2) hb l
theorem try_fin {w wx w2 wf:World} {SM SB:Nat→Prop} {cb ub mb bb tb:Nat} {c:Cor} {u:Mu} (htb:tb=w.heap.size) (hx:tb+1<wx.heap.size) (hsm:∀k,SM k→k<w.heap.size) (hcb:cb<w.heap.size) (hub:ub<w.heap.size) (hsb:∀k,SB k→k<w.heap.size)
  (hc:CoreAt w2 cb c) (hm:MuAt w2 (Grow SM wx) SB ub mb bb u) (k:Chg (fun k=>k=cb∨SM k∨SB k) w w2) (kf:Chg (fun k=>k=tb∨k=tb+1) w2 wf) :
  CoreAt wf cb c∧MuAt wf (Grow SM w) SB ub mb bb u∧Chg (fun k=>k=cb∨SM k∨SB k) w wf:=by
 refine ⟨hc.chg kf (by omega),(hm.chg kf (by omega) (fun j hj=>?_) (fun j hj=>by have:=hsb j hj;omega)).reGrow (by omega) hub hsb,k.trans kf fun j hj e=>by omega⟩
 rcases hj with hj | hj
 ·have:=hsm j hj;omega
 ·omega
def tryG (X:Cx) (c:Cor) (u:Mu) (g:Option In) (pick:Int):DidP×Cor×Mu:=match g with
 | none=>(DidP.no c.pc 2,c,u)
 | some i=>doF X c u i pick
def DidP.agg (d:DidP):Value:=.agg d.cells
theorem MuAt.fetch_lt {w:World} {SM SB:Nat→Prop} {ub mb bb:Nat} {u:Mu} (h:MuAt w SM SB ub mb bb u) (va:Nat) (a pick:Int):(readF u va 4 a pick).1.1<4294967296:=by
 unfold readF
 by_cases hc:(placeF u va 4 a pick).1.2 = -1
 ·simp only [hc,ne_eq,not_true_eq_false,if_false]
  exact Nat.lt_of_lt_of_eq (getW_lt h.mem.ok _ _) (by decide)
 ·simp only [ne_eq,hc,not_false_eq_true,if_true]
  omega
theorem try_any {X:Cx} {w:World} {SM SB:Nat→Prop} {cb ub mb bb:Nat} {c:Cor} {u:Mu} (hc:CoreAt w cb c) (hu:MuAt w SM SB ub mb bb u) (hne:cb≠ub) (hcm:¬SM cb) (hcB:¬SB cb) (hsm:∀k,SM k→k<w.heap.size) (hr:c.run=0)
  (pick:Int) (hX:∀i,instG (readF u c.pc 4 0 pick).1.1=some i→CxFor X i.op) (p1 : -9223372036854775808≤pick) (p2:pick≤9223372036854775807) :
  Calls Tryz.prog 136 #[.pointer (some ⟨cb,0,none⟩),.pointer (some ⟨ub,0,none⟩),.int .i64 pick] w (RetW (tryF X c u pick).1.agg fun w'=>
   CoreAt w' cb (tryF X c u pick).2.1∧MuAt w' (Grow SM w) SB ub mb bb (tryF X c u pick).2.2∧Chg (fun k=>k=cb∨SM k∨SB k) w w'):=by
 have HRun:=Lib.hid (fun w' (k:Chg NoB w w')=>coreRun_any (hc.chg k id))
 rw [hr] at HRun
 have f16:∀w',Chg NoB w w'→w'.cell? ⟨cb,16,none⟩=some (.int .u64 c.pc):=fun w' k=>(hc.chg k id).blk.cell' (i:=16) rfl
 have fl:∀w',Chg NoB w w'→cb<w'.heap.size:=fun w' k=>(hc.chg k id).blk.lt
 have HC:=Lib.hid hc
 have HU:=Lib.hid hu
 have HSM:=Lib.hid hsm
 have HNE:=Lib.hid hne
 have HCM:=Lib.hid hcm
 have HCB:=Lib.hid hcB
 have HHR:=Lib.hid hr
 have k0:Chg NoB w (w.alloc (.cells #[.bool false,.int .i64 0,.int .i64 0,.int .i64 0,.int .i64 0,.int .i64 0,.int .u64 0,.int .i64 0,.int .i64 0,.int .u64 0,.int .i64 0,.int .u64 0,.int .u64 0] 69)):=(Chg.refl NoB w).alloc _
 obtain ⟨O,hO⟩:∃O,tryF X c u pick=O:=⟨_,rfl⟩
 have HO:Hid (O=tryF X c u pick):=Lib.hid hO.symm
 rw [hO]
 clear hc hu hsm hne hcm hcB hr hO;go_enter Tryz.func136,Tryz.ntmps136;go_upto_region 4 with (refine (HRun.out _ k0).mono ?_;rintro e w3 ⟨rfl,hw3⟩;subst hw3)
 have hT:DidAt ((w.alloc (.cells #[.bool false,.int .i64 0,.int .i64 0,.int .i64 0,.int .i64 0,.int .i64 0,.int .u64 0,.int .i64 0,.int .i64 0,.int .u64 0,.int .i64 0,.int .u64 0,.int .u64 0] 69)).alloc (.cells #[.bool false,.int .i64 0,.int .i64 0,.int .i64 0,.int .i64 0,.int .i64 0,.int .u64 c.pc,.int .i64 (-1),.int .i64 0,.int .u64 0,.int .i64 0,.int .u64 0,.int .u64 0] 69)) w.heap.size (DidP.no 0 0):=(Blk.new w _ _).alloc _
 have hD:DidAt ((w.alloc (.cells #[.bool false,.int .i64 0,.int .i64 0,.int .i64 0,.int .i64 0,.int .i64 0,.int .u64 0,.int .i64 0,.int .i64 0,.int .u64 0,.int .i64 0,.int .u64 0,.int .u64 0] 69)).alloc (.cells #[.bool false,.int .i64 0,.int .i64 0,.int .i64 0,.int .i64 0,.int .i64 0,.int .u64 c.pc,.int .i64 (-1),.int .i64 0,.int .u64 0,.int .i64 0,.int .u64 0,.int .u64 0] 69)) (w.heap.size+1) (DidP.no c.pc (-1)):=by
  have:=Blk.new (w.alloc (.cells #[.bool false,.int .i64 0,.int .i64 0,.int .i64 0,.int .i64 0,.int .i64 0,.int .u64 0,.int .i64 0,.int .i64 0,.int .u64 0,.int .i64 0,.int .u64 0,.int .u64 0] 69)) (DidP.no c.pc (-1)).cells 69
  simp only [World.size_alloc] at this
  exact this
 have cA:Chg NoB w ((w.alloc (.cells #[.bool false,.int .i64 0,.int .i64 0,.int .i64 0,.int .i64 0,.int .i64 0,.int .u64 0,.int .i64 0,.int .i64 0,.int .u64 0,.int .i64 0,.int .u64 0,.int .u64 0] 69)).alloc (.cells #[.bool false,.int .i64 0,.int .i64 0,.int .i64 0,.int .i64 0,.int .i64 0,.int .u64 c.pc,.int .i64 (-1),.int .i64 0,.int .u64 0,.int .i64 0,.int .u64 0,.int .u64 0] 69)):=k0.alloc _
 generalize ((w.alloc (.cells #[.bool false,.int .i64 0,.int .i64 0,.int .i64 0,.int .i64 0,.int .i64 0,.int .u64 0,.int .i64 0,.int .i64 0,.int .u64 0,.int .i64 0,.int .u64 0,.int .u64 0] 69)).alloc (.cells #[.bool false,.int .i64 0,.int .i64 0,.int .i64 0,.int .i64 0,.int .i64 0,.int .u64 c.pc,.int .i64 (-1),.int .i64 0,.int .u64 0,.int .i64 0,.int .u64 0,.int .u64 0] 69))=wA at *;clear k0;have HFT:=Lib.hid (munit_fetch (HU.out.chg0 cA) c.pc pick HC.out.pc p1 p2)
 obtain ⟨tb,htb⟩:∃tb,w.heap.size=tb:=⟨_,rfl⟩
 have HTB:Hid (tb=w.heap.size):=Lib.hid htb.symm
 rw [htb] at hT hD
 simp only [htb]
 obtain ⟨R,hR⟩:∃R,readF u c.pc 4 0 pick=R:=⟨_,rfl⟩
 have HR:Hid (R=readF u c.pc 4 0 pick):=Lib.hid hR.symm
 have HLT:Hid (R.1.1<4294967296):=Lib.hid (by rw [←hR];exact HU.out.fetch_lt c.pc 0 pick)
 rw [show readF u c.pc 4 0 pick=R from hR] at HFT
 obtain ⟨⟨v,cs⟩,u1⟩:=R
 dsimp only at HFT HLT
 have HCA:=Lib.hid cA
 have HT:=Lib.hid hT
 have HD:=Lib.hid hD
 have fA:=f16 _ cA
 have lA:=fl _ cA
 clear hT hD cA hR htb;go_wp2_with fail;clear fA lA;refine HFT.out.mono ?_
 rintro e w2 ⟨rfl,hM2,c2⟩;have HM2:=Lib.hid hM2
 have HC2:=Lib.hid c2
 have hF2:=c2.blk HD.out (fun e=>by have:=HU.out.n4 _ e;have:=HTB.out;omega)
 have hT2:=c2.blk HT.out (fun e=>by have:=HU.out.n4 _ e;have:=HTB.out;omega)
 have HF2:=Lib.hid hF2
 have HT2:=Lib.hid hT2
 have HCB2:=Lib.hid ((HC.out.chg HCA.out id).chg c2 HCB.out)
 have HW2:Hid (Chg (fun k=>k=cb∨SM k∨SB k) w w2):=Lib.hid ((HCA.out.mono fun _ _ e=>e.elim).step (c2.mono fun _ _ e=>.inr (.inr e)))
 have hl2:=hF2.lt
 have HL2:Hid (tb+1<w2.heap.size):=Lib.hid hl2
 by_cases hcs:cs = -1
 ·subst hcs;have v1:IntKind.u32.wrap (v:Int)=v:=by rw [IntKind.wrap_u32];have:=HLT.out;omega
  obtain ⟨gi,hgi⟩:∃g,instG v=g:=⟨_,rfl⟩
  have HG:=Lib.hid (fun w'=>get_word v HLT.out w')
  rw [hgi] at HG
  have HO1:Hid (O=tryG X c u1 gi pick):=Lib.hid (by
   rw [HO.out]
   unfold tryF
   rw [if_neg (fun e=>e HHR.out),←HR.out]
   dsimp only
   rw [if_neg (fun e=>e rfl),←hgi]
   rfl)
  have HXI:Hid (∀i,gi=some i→CxFor X i.op):=Lib.hid (fun i e=>hX i (by rw [←HR.out];exact hgi.trans e))
  have HGI:Hid (∀i,gi=some i→i.Ok):=Lib.hid (fun i e=>by
   have:instG v=some i:=hgi.trans e
   unfold instG at this
   split at this
   ·rename_i hr;cases this;exact In.ok hr
   ·cases this)
  have f16:=HCB2.out.blk.cell' (i:=16) (v:=.int .u64 c.pc) rfl
  have fl:=HCB2.out.blk.lt
  clear hM2 c2 hF2 hT2 hl2 hgi;have hub:=HU.out.blk.lt
  have gD:=fun w' (k:Chg NoB w2 w')=>(show Blk w' (tb+1) #[.bool false,.int .i64 0,.int .i64 0,.int .i64 0,.int .i64 0,.int .i64 0,.int .u64 c.pc,.int .i64 (-1),.int .i64 0,.int .u64 0,.int .i64 0,.int .u64 0,.int .u64 0] 69 from k.blk0 HF2.out)
  have gT:=fun w' (k:Chg NoB w2 w')=>(show Blk w' tb #[.bool false,.int .i64 0,.int .i64 0,.int .i64 0,.int .i64 0,.int .i64 0,.int .u64 0,.int .i64 0,.int .i64 0,.int .u64 0,.int .i64 0,.int .u64 0,.int .u64 0] 69 from k.blk0 HT2.out)
  have HMM:=Lib.hid (HM2.out.growS (w:=w2) (by have:=HTB.out;have:=HL2.out;omega) (fun k hk=>by have:=HU.out.n4 k hk;have:=HTB.out;have:=HL2.out;omega))
  clear HT HD hub;cases gi with
  | none=>
   have HG2:Hid (∀w',Calls Tryz.prog 171 #[.int .u32 v] w' (RetW (.tuple #[.agg #[.int .i64 0,.int .i64 0,.int .i64 0,.int .i64 0,.int .i64 0],.bool false]) fun w''=>Chg NoB w' w'')):=HG
   go_wp2_with fail;refine (HG2.out _).mono ?_
   rintro e w3 ⟨rfl,h3⟩;have HN3:=Lib.hid h3
   have g:=(gD w3 h3).cell
   have gl:=(gD w3 h3).lt
   have gz:=(gD w3 h3).frozen
   have h':=(gT w3 h3).cell
   have hl:=(gT w3 h3).lt
   have hz:=(gT w3 h3).frozen
   clear gD gT HG HG2 f16 fl h3 v1;go_wp2_with fail;exact bodyPost_ret (v:=(DidP.no c.pc 2).agg) (by simp [results,Tryz.results136,go_sem,DidP.no,DidP.agg,DidP.cells,g,gl,h',hl]) rfl (by
    rw [HO1.out]
    exact ⟨rfl,try_fin HTB.out HL2.out HSM.out HC.out.blk.lt HU.out.blk.lt HU.out.n4 (HCB2.out.chg HN3.out id) (HMM.out.chg0 HN3.out) (HW2.out.then0 HN3.out) ((chg_sets ((Chg.refl _ w3).setCell (a:=⟨tb+1,7,none⟩) (.inl (.inr rfl)) _) (.inl (.inl rfl)) [(0,.bool false),(1,.int .i64 0),(2,.int .i64 0),(3,.int .i64 0),(4,.int .i64 0),(5,.int .i64 0),(6,.int .u64 c.pc),(7,.int .i64 2),(8,.int .i64 0),(9,.int .u64 0),(10,.int .i64 0),(11,.int .u64 0),(12,.int .u64 0)]).alloc _)⟩)
  | some i=>
   obtain ⟨o,rd,rs,rt,im⟩:=i
   have HG2:Hid (∀w',Calls Tryz.prog 171 #[.int .u32 v] w' (RetW (.tuple #[.agg #[.int .i64 o,.int .i64 rd,.int .i64 rs,.int .i64 rt,.int .i64 im],.bool true]) fun w''=>Chg NoB w' w'')):=HG
   go_wp2_with fail;refine (HG2.out _).mono ?_
   rintro e w3 ⟨rfl,h3⟩;have HN3:=Lib.hid h3
   have g:=(gD w3 h3).cell
   have gl:=(gD w3 h3).lt
   have gz:=(gD w3 h3).frozen
   have hl:=(gT w3 h3).lt
   have HD4:=Lib.hid ((((((gD w3 h3).set 1 (.int .i64 o)).set 2 (.int .i64 rd)).set 3 (.int .i64 rs)).set 4 (.int .i64 rt)).set 5 (.int .i64 im))
   have HT3:=Lib.hid (gT w3 h3)
   clear gD gT HG HG2 f16 fl h3 v1;go_wp2_with fail;have k5:Chg (fun k=>k=tb+1) w3 (((((w3.setCell ⟨tb+1,1,none⟩ (.int .i64 o)).setCell ⟨tb+1,2,none⟩ (.int .i64 rd)).setCell ⟨tb+1,3,none⟩ (.int .i64 rs)).setCell ⟨tb+1,4,none⟩ (.int .i64 rt)).setCell ⟨tb+1,5,none⟩ (.int .i64 im)):=chg_sets (b:=tb+1) (Chg.refl (fun k=>k=tb+1) w3) (.inl rfl) [(1,.int .i64 o),(2,.int .i64 rd),(3,.int .i64 rs),(4,.int .i64 rt),(5,.int .i64 im)]
   have k6:=k5.alloc (.cells #[.int .i64 o,.int .i64 rd,.int .i64 rs,.int .i64 rt,.int .i64 im] 50)
   have HD5:=HD4.out.alloc (.cells #[.int .i64 o,.int .i64 rd,.int .i64 rs,.int .i64 rt,.int .i64 im] 50)
   generalize ((((((w3.setCell ⟨tb+1,1,none⟩ (.int .i64 o)).setCell ⟨tb+1,2,none⟩ (.int .i64 rd)).setCell ⟨tb+1,3,none⟩ (.int .i64 rs)).setCell ⟨tb+1,4,none⟩ (.int .i64 rt)).setCell ⟨tb+1,5,none⟩ (.int .i64 im)).alloc (.cells #[.int .i64 o,.int .i64 rd,.int .i64 rs,.int .i64 rt,.int .i64 im] 50))=w4 at *;have hlt:=HTB.out
   have hl2:=HL2.out
   have hs3:=HN3.out.size
   have hs4:=k6.size
   have hcb:=HC.out.blk.lt
   have hub:=HU.out.blk.lt
   have hD5:DidAt w4 (tb+1) ⟨false,⟨o,rd,rs,rt,im⟩,c.pc,-1,0,0,0,0,0⟩:=HD5
   have HC4:=(HCB2.out.chg HN3.out id).chg k6 (by omega)
   have HM4:=(HM2.out.chg0 HN3.out).chg k6 (by omega) (fun k hk=>by have:=HSM.out k hk;omega) (fun k hk=>by have:=HU.out.n4 k hk;omega)
   have hfar:Far SM SB cb (tb+1) ub:=⟨by omega,HNE.out,by omega,HCM.out,HCB.out,fun e=>by have:=HSM.out _ e;omega,fun e=>by have:=HU.out.n4 _ e;omega⟩
   have HDo:=Lib.hid (do_any HC4 HM4 ⟨o,rd,rs,rt,im⟩ (HXI.out _ rfl) (HGI.out _ rfl) hD5 hfar (fun k hk=>by have:=HSM.out k hk;omega) pick p1 p2)
   have HO3:Hid (O=doF X c u1 ⟨o,rd,rs,rt,im⟩ pick):=HO1
   obtain ⟨R,hR⟩:∃R,doF X c u1 ⟨o,rd,rs,rt,im⟩ pick=R:=⟨_,rfl⟩
   rw [hR] at HDo HO3
   have HT4:=Lib.hid (k6.blk HT3.out (by omega))
   have HK6:=Lib.hid k6
   have HL4:Hid (tb+1<w4.heap.size):=Lib.hid (by omega)
   clear hR HD5 hD5 HC4 HM4 hfar hlt hl2 hs3 hs4 hcb hub k5 k6 g gl gz hl;obtain ⟨⟨dn,⟨eo,ed,es,et,em⟩,dp,dc,da,dad,ds,dol,dne⟩,c5,u5⟩:=R
   dsimp only at HDo HO3
   refine HDo.out.mono ?_
   rintro e w5 ⟨rfl,hD5,hC5,hM5,k5⟩;have HD5:=Lib.hid hD5
   have HC5:=Lib.hid hC5
   have HM5:=Lib.hid hM5
   have HK5:=Lib.hid k5
   have HT5:=Lib.hid (k5.blk HT4.out (fun e=>by
    have:=HTB.out
    rcases e with e | e | e | e
    ·have:=HC.out.blk.lt;omega
    ·omega
    ·have:=HSM.out _ e;omega
    ·have:=HU.out.n4 _ e;omega))
   have g:=(show Blk w5 (tb+1) #[.bool dn,.int .i64 eo,.int .i64 ed,.int .i64 es,.int .i64 et,.int .i64 em,.int .u64 dp,.int .i64 dc,.int .i64 da,.int .u64 dad,.int .i64 ds,.int .u64 dol,.int .u64 dne] 69 from hD5).cell
   have gl:=hD5.lt
   have gz:=hD5.frozen
   have h':=HT5.out.cell
   have hl:=HT5.out.lt
   have hz:=HT5.out.frozen
   clear hD5 hC5 hM5 k5;go_wp2_with fail;exact bodyPost_ret (v:=(DidP.mk dn ⟨eo,ed,es,et,em⟩ dp dc da dad ds dol dne).agg) (by simp [results,Tryz.results136,go_sem,DidP.agg,DidP.cells,g,gl,h',hl]) rfl (by
    rw [HO3.out]
    refine ⟨rfl,try_fin (wx:=w4) HTB.out HL4.out HSM.out HC.out.blk.lt HU.out.blk.lt HU.out.n4 HC5.out HM5.out ?_ (chg_sets (Chg.refl _ w5) (.inl (.inl rfl)) [(0,.bool dn),(1,.int .i64 eo),(2,.int .i64 ed),(3,.int .i64 es),(4,.int .i64 et),(5,.int .i64 em),(6,.int .u64 dp),(7,.int .i64 dc),(8,.int .i64 da),(9,.int .u64 dad),(10,.int .i64 ds),(11,.int .u64 dol),(12,.int .u64 dne)])⟩
    have hlt:=HTB.out
    refine ((HW2.out.then0 HN3.out).trans HK6.out (fun j hj e=>by omega)).trans HK5.out (fun j hj e=>?_)
    rcases e with e | e | e
    ·exact .inl e
    ·omega
    ·exact .inr e)
 ·have t1:(cs != -1)=true:=by simpa using hcs
  have HO2:Hid (O=({ DidP.no c.pc cs with addr:=c.pc},c,u1)):=Lib.hid (by
   rw [HO.out]
   unfold tryF
   rw [if_neg (fun e=>e HHR.out),←HR.out]
   dsimp only
   rw [if_pos hcs])
  have g:=(show Blk w2 (tb+1) #[.bool false,.int .i64 0,.int .i64 0,.int .i64 0,.int .i64 0,.int .i64 0,.int .u64 c.pc,.int .i64 (-1),.int .i64 0,.int .u64 0,.int .i64 0,.int .u64 0,.int .u64 0] 69 from hF2).cell
  have gl:=hF2.lt
  have gz:=hF2.frozen
  have h':=(show Blk w2 tb #[.bool false,.int .i64 0,.int .i64 0,.int .i64 0,.int .i64 0,.int .i64 0,.int .u64 0,.int .i64 0,.int .i64 0,.int .u64 0,.int .i64 0,.int .u64 0,.int .u64 0] 69 from hT2).cell
  have hl:=hT2.lt
  have hz:=hT2.frozen
  have f16:=HCB2.out.blk.cell' (i:=16) (v:=.int .u64 c.pc) rfl
  have fl:=HCB2.out.blk.lt
  clear hM2 c2 hF2 hT2 hcs;go_wp2_with fail;exact bodyPost_ret (v:=(DidP.mk false ⟨0,0,0,0,0⟩ c.pc cs 0 c.pc 0 0 0).agg) (by simp [results,Tryz.results136,go_sem,DidP.agg,DidP.cells,g,gl,h',hl]) rfl (by
   rw [HO2.out]
   exact ⟨rfl,try_fin HTB.out HL2.out HSM.out HC.out.blk.lt HU.out.blk.lt HU.out.n4 HCB2.out (HM2.out.growS (by have:=HU.out.blk.lt;have:=HTB.out;omega) (fun k hk=>by have:=HU.out.n4 k hk;have:=HTB.out;omega)) HW2.out (chg_sets (((Chg.refl _ w2).setCell (a:=⟨tb+1,7,none⟩) (.inl (.inr rfl)) _).setCell (a:=⟨tb+1,9,none⟩) (.inl (.inr rfl)) _) (.inl (.inl rfl)) [(0,.bool false),(1,.int .i64 0),(2,.int .i64 0),(3,.int .i64 0),(4,.int .i64 0),(5,.int .i64 0),(6,.int .u64 c.pc),(7,.int .i64 cs),(8,.int .i64 0),(9,.int .u64 c.pc),(10,.int .i64 0),(11,.int .u64 0),(12,.int .u64 0)])⟩)
theorem SpAt.lt {w:World} {L:Pl} {s:Spc} (h:SpAt w L s):∀k,L.All k→k<w.heap.size:=fun k hk=>hk.elim (fun e=>(h.ap.nm k e).1) (h.ap.bd k)
def nilCx:Cx:=⟨fun _ _=>0,fun _ _=>0,fun _ _=>0,fun _=>0,fun _=>0⟩
structure UStay (u u':Mu):Prop where
 fr:u'.fr=u.fr
 satp:u'.satp=u.satp
 mode:u'.mode=u.mode
theorem UStay.refl (u:Mu):UStay u u:=⟨rfl,rfl,rfl⟩
theorem readF_stay (u:Mu) (va:Nat) (size a pick:Int):UStay u (readF u va size a pick).2:=by
 unfold readF
 dsimp only
 split <;> exact ⟨rfl,rfl,rfl⟩
theorem storeF_stay (u:Mu) (va:Nat) (size:Int) (v:Nat) (pick:Int):UStay u (storeF u va size v pick).2:=by
 unfold storeF
 dsimp only
 split <;> exact ⟨rfl,rfl,rfl⟩
theorem swapF_stay (u:Mu) (va:Nat) (size:Int) (t:Nat→Nat) (pick:Int):UStay u (swapF u va size t pick).2:=by
 unfold swapF
 dsimp only
 split <;> exact ⟨rfl,rfl,rfl⟩
theorem overF_stay (c:Cor) (u:Mu) (i:In) (pick:Int):UStay u (overF c u i pick).2.2:=by
 unfold overF
 dsimp only
 split
 ·split <;> exact readF_stay _ _ _ _ _
 ·split
  ·split <;> exact storeF_stay _ _ _ _ _
  ·split <;> exact swapF_stay _ _ _ _ _
theorem doF_stay (X:Cx) (c:Cor) (u:Mu) (i:In) (pick:Int):UStay u (doF X c u i pick).2.2:=by
 unfold doF
 dsimp only
 split
 ·exact overF_stay _ _ _ _
 ·split
  ·exact UStay.refl u
  ·split
   ·exact UStay.refl u
   ·split <;> exact UStay.refl u
theorem tryF_stay (X:Cx) (c:Cor) (u:Mu) (pick:Int):UStay u (tryF X c u pick).2.2:=by
 unfold tryF
 split
 ·exact UStay.refl u
 ·dsimp only
  split
  ·exact readF_stay _ _ _ _ _
  ·have h:=readF_stay u c.pc 4 0 pick
   split
   ·exact h
   ·rename_i i _
    have k:=doF_stay X c (readF u c.pc 4 0 pick).2 i pick
    exact ⟨k.fr.trans h.fr,k.satp.trans h.satp,k.mode.trans h.mode⟩
theorem SpAt.unit {w w':World} {L:Pl} {s:Spc} {cb:Nat} {u':Mu} (h:SpAt w L s) (hcb:¬L.All cb) (hu:MuAt w' (Grow L.SM w) L.SB L.ub L.mb L.bb u') (st:UStay s.u u') (c:Chg (fun k=>k=cb∨L.SM k∨L.SB k) w w') :
  SpAt w' (L.grow w w') { s with u:=u'}:=by
 have nm:∀b,b∈L.names→¬(b=cb∨L.SM b∨L.SB b):=fun b hb e=>by
  obtain ⟨-,h2,h3,-⟩:=h.ap.nm b hb
  rcases e with e | e | e
  ·exact hcb (e▸.inl hb)
  ·exact h2 e
  ·exact h3 e
 have ht:=h.tab
 have hT:TabAt w' (Grow L.SM w) L.mb s.u.fr L.sb L.mp L.tb s.root { s.tst with b:=u'.b}:=
  ⟨st.fr▸hu.mem,ht.stk.chg c (nm _ (by simp [Pl.names])) (nm _ (by simp [Pl.names])),c.blk ht.tab (nm _ (by simp [Pl.names])),fun e=>e.elim ht.n1 (fun e=>by have:=ht.stk.blk.lt;omega),fun e=>e.elim ht.n2 (fun e=>by have:=ht.stk.map.lt;omega),
   fun e=>e.elim ht.n3 (fun e=>by have:=ht.tab.lt;omega),ht.n4,ht.n5,ht.ok,ht.us,ht.fr⟩
 have hSC:∀k,L.SC k→¬(k=cb∨L.SM k∨L.SB k):=fun k hk e=>by
  rcases e with e | e | e
  ·exact hcb (e▸.inr (.inr (.inr hk)))
  ·exact (h.ap.mB k e).2 hk
  ·exact h.ap.bC k e hk
 have:=h.re c (nm _ (by simp [Pl.names])) (nm _ (by simp [Pl.names])) hSC hT hu.tlb (h.sh.chg c (nm _ (by simp [Pl.names]))) (h.ri.chg c (nm _ (by simp [Pl.names])))
 have e:u' = { s.u with b:=u'.b,tlb:=u'.tlb}:=by
  obtain ⟨b,fr,tl,sa,md⟩:=u'
  have h1:=st.fr;have h2:=st.satp;have h3:=st.mode
  dsimp only at h1 h2 h3
  subst h1 h2 h3;rfl
 rw [e]
 exact this
structure Mc (w:World) (L:Pl) (s:Spc) (cb:Nat) (c:Cor):Prop where
 sp:SpAt w L s
 co:CoreAt w cb c
 ap:¬L.All cb
theorem Mc.chg0 {w w':World} {L:Pl} {s:Spc} {cb:Nat} {c:Cor} (h:Mc w L s cb c) (k:Chg NoB w w'):Mc w' L s cb c:=⟨h.sp.chg0 k,h.co.chg k id,h.ap⟩
theorem Mc.core {w w':World} {L:Pl} {s:Spc} {cb:Nat} {c c':Cor} (h:Mc w L s cb c) (hc:CoreAt w' cb c') (k:Chg (fun k=>k=cb) w w'):Mc w' L s cb c':=⟨h.sp.chg k fun j hj e=>h.ap (by have e:j=cb:=e;exact e▸hj),hc,h.ap⟩
def Blks (L:Pl) (cb:Nat) (k:Nat):Prop:=k=cb∨L.All k
theorem mcTry_any {X:Cx} {w:World} {L:Pl} {s:Spc} {cb:Nat} {c:Cor} (h:Mc w L s cb c) (hr:c.run=0) (pick:Int) (hX:∀i,instG (readF s.u c.pc 4 0 pick).1.1=some i→CxFor X i.op) (p1 : -9223372036854775808≤pick) (p2:pick≤9223372036854775807) :
  Calls Tryz.prog 136 #[.pointer (some ⟨cb,0,none⟩),.pointer (some ⟨L.ub,0,none⟩),.int .i64 pick] w (RetW (tryF X c s.u pick).1.agg fun w'=>∃L':Pl,Ext L L' w∧Mc w' L' { s with u:=(tryF X c s.u pick).2.2} cb (tryF X c s.u pick).2.1∧Chg (Blks L cb) w w'):=by
 have hub:L.All L.ub:=.inl (by simp [Pl.names])
 refine (try_any h.co h.sp.mu (fun e=>h.ap (e▸hub)) (fun e=>h.ap (.inr (.inl e))) (fun e=>h.ap (.inr (.inr (.inl e)))) (fun k hk=>h.sp.lt k (.inr (.inl hk))) hr pick hX p1 p2).mono ?_
 rintro e w' ⟨rfl,hc,hm,k⟩;refine ⟨rfl,L.grow w w',Ext.grow L w w',⟨h.sp.unit h.ap hm (tryF_stay X c s.u pick) k,hc,fun e=>?_⟩,k.mono fun j _ e=>?_⟩
 ·rcases (Ext.grow L w w').2.2 cb e with e | e
  ·exact h.ap e
  ·have:=h.co.blk.lt;omega
 ·rcases e with e | e | e
  ·exact .inl e
  ·exact .inr (.inr (.inl e))
  ·exact .inr (.inr (.inr (.inl e)))
end Go.Proofs.YtjhnnjgnkkjmkaaGreatDoor
