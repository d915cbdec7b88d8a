/- A Did in memory; a node's core. No condition. Nodes that run: a turn of the core. No condition. Nodes that run: the links lie apart from the node's own block. No condition. -/
import Derived.Test.YtjhnnjgnkkjmkaaGreatDoorIa
import Derived.Test.YtjhnnjgnkkjmkaaGreatDoorIb
import Derived.Test.YtjhnnjgnkkjmkaaGreatDoorGd
set_option maxHeartbeats 4000000
set_option maxRecDepth 100000
set_option linter.unusedVariables false
set_option linter.unusedSimpArgs false
namespace Go.Proofs.YtjhnnjgnkkjmkaaGreatDoor
open Go.RowKit Go.RR
theorem Mc.chg {w w':World} {S:Nat→Prop} {L:Pl} {s:Spc} {cb:Nat} {c:Cor} (h:Mc w L s cb c) (k:Chg S w w') (hs:∀j,Blks L cb j→¬S j):Mc w' L s cb c:=⟨h.sp.chg k fun j hj=>hs j (.inr hj),h.co.chg k (hs cb (.inl rfl)),h.ap⟩
theorem did_there {w:World} {b:Nat} {cs:Array Value} (h:Blk w b cs 69) (hs:cs.size=13):w.there b 0 13:=fun j hj=>by
 rw [Nat.zero_add]
 refine ⟨?_,h.frozen j⟩
 rw [h.cell j,Array.getElem?_eq_getElem (by omega)]
 rfl
theorem did_info:(Tryz.prog.info? 69).map (·.size)=some 13:=by kernel_rfl
theorem nCore_q {w:World} {nb cb:Nat} (f1:w.cell? ⟨nb,3,none⟩=some (.pointer (some ⟨cb,0,none⟩))) (fl:nb<w.heap.size):Calls Tryz.prog 133 #[.pointer (some ⟨nb,0,none⟩)] w (RetW (.pointer (some ⟨cb,0,none⟩)) fun w'=>w'=w):=by
 go_enter Tryz.func133,Tryz.ntmps133;go_wp2_with fail;go_ret;exact ⟨rfl,rfl⟩
theorem st_want (x0 x1 x2 x3 x5 x6 x7 x8:Value) (a:Int) (w:World):(Instr.field 291 (.agg #[x0,x1,x2,x3,.int .i64 a,x5,x6,x7,x8]) 4).run Tryz.prog w = .ok (.int .i64 a) w:=by kernel_rfl
def NoWait (ps:List (Int×Nat×PgS)) (page sh:Int):Prop:=page<0∨(0≤page∧page<sh∧∃pb st,hLook ps page=some (pb,st)∧st.want=0)
theorem hState_nowait {w:World} {S:Nat→Prop} {hb spb:Nat} {me n sh:Int} {ps:List (Int×Nat×PgS)} (a:HmW w S hb spb me n sh ps) (page:Int) (h:NoWait ps page sh) :
  Calls Tryz.prog 135 #[.pointer (some ⟨hb,0,none⟩),.int .i64 page] w (RetV fun v w'=>∃x0 x1 x2 x3 x5 x6 x7 x8:Value,v = .agg #[x0,x1,x2,x3,.int .i64 0,x5,x6,x7,x8]∧Chg NoB w w'):=by
 rcases h with h | ⟨h0,h1,pb,st,hl,hw⟩
 ·refine (hState_none a page h).mono ?_
  rintro e w' ⟨rfl,hc⟩;exact ⟨_,rfl,_,_,_,_,_,_,_,_,rfl,hc⟩
 ·refine (hState_known a page h0 h1 hl).mono ?_
  rintro e w' ⟨rfl,hc⟩;obtain ⟨right,owner,prob,set,want,wait,held,forget⟩:=st
  have hw:want=0:=hw
  subst hw;exact ⟨_,rfl,_,_,_,_,_,_,_,_,rfl,hc⟩
theorem nRun_done {w:World} {F:Nat→Prop} {nb me n:Nat} {page:Int} {s:Spc} {c:Cor} {ps:List (Int×Nat×PgS)} (h:RNAt w F nb me n page s c ps) (hr:c.run=0) (hno:NoWait ps page s.shape.shared) (hX:∀j,instG (readF s.u c.pc 4 0 0).1.1=some j→CxFor nilCx j.op) (T:DidP×Cor×Mu) (hT:tryF nilCx c s.u 0=T) (hd:T.1.done=true)
  (ev:Int) (page2:Int) (s2:Spc) (ps2:List (Int×Nat×PgS))
  (hD:∀w' F',RNAt w' F' nb me n page { s with u:=T.2.2} T.2.1 ps→Calls Tryz.prog 138 #[.pointer (some ⟨nb,0,none⟩),T.1.agg] w' (RetW (.agg (#[.int .i64 2] ++ T.1.cells ++ #[.int .i64 ev])) fun w''=>∃F'',RNAt w'' F'' nb me n page2 s2 T.2.1 ps2∧(∀k,F'' k→F' k∨w'.heap.size≤k)∧Chg F' w' w'')) :
  Calls Tryz.prog 99 #[.pointer (some ⟨nb,0,none⟩),.int .i64 0] w (RetW (.agg (#[.int .i64 2] ++ T.1.cells ++ #[.int .i64 ev])) fun w''=>∃F'',RNAt w'' F'' nb me n page2 s2 T.2.1 ps2∧(∀k,F'' k→F k∨w.heap.size≤k)∧Chg F w w''):=by
 have HQ:=Lib.hid hT
 have HDn:=Lib.hid hD
 clear hT hD;obtain ⟨⟨done,⟨op,rd,rs,rt,im⟩,pc,cause,access,addr,size,old,new⟩,c',u'⟩:=T
 have hd:done=true:=hd
 subst hd;show Calls _ _ _ _ (RetW (.agg #[.int .i64 2,.bool true,.int .i64 op,.int .i64 rd,.int .i64 rs,.int .i64 rt,.int .i64 im,.int .u64 pc,.int .i64 cause,.int .i64 access,.int .u64 addr,.int .i64 size,.int .u64 old,.int .u64 new,.int .i64 ev]) fun w''=>∃F'',RNAt w'' F'' nb me n page2 s2 c' ps2∧(∀k,F'' k→F k∨w.heap.size≤k)∧Chg F w w'')
 obtain ⟨L,hb,cb,v,cs,SK,SH,b1,b2,b3,b4,b5,b6,f,d1,d2⟩:=h.ex
 obtain ⟨vp,vc,rfl⟩:=b3.form
 have c0:=(Chg.refl NoB w).alloc (.cells #[.int .i64 0,.bool false,.int .i64 0,.int .i64 0,.int .i64 0,.int .i64 0,.int .i64 0,.int .u64 0,.int .i64 0,.int .i64 0,.int .u64 0,.int .i64 0,.int .u64 0,.int .u64 0,.int .i64 0] 86)
 have HBE:=Lib.hid (Blk.new w #[.int .i64 0,.bool false,.int .i64 0,.int .i64 0,.int .i64 0,.int .i64 0,.int .i64 0,.int .u64 0,.int .i64 0,.int .i64 0,.int .u64 0,.int .i64 0,.int .u64 0,.int .u64 0,.int .i64 0] 86)
 have HBN:=Lib.hid (c0.blk0 b2)
 have HC:=Lib.hid c0
 have HCr:=Lib.hid fun w' (k:Chg NoB w w')=>cRun_q (b5.co.chg k id)
 rw [hr] at HCr
 have HSt:=Lib.hid fun w' (k:Chg NoB w w')=>hState_nowait (b6.chg0 k) page hno
 have HR:=Lib.hid (And.intro h (And.intro b1 (And.intro b2 (And.intro b3 (And.intro b4 (And.intro b5 (And.intro b6 (And.intro f (And.intro d1 (And.intro d2 h.bd))))))))))
 have HX:=Lib.hid (And.intro hX hr)
 have hnl:=b2.lt
 clear h b1 b2 b3 b4 b5 b6 f d1 d2 c0 hX hr hno;have hfw:=st_want
 go_enter Tryz.func99,Tryz.ntmps99;go_upto_region 1 with fail;obtain ⟨w0,hw0⟩:∃x,w.alloc (.cells #[.int .i64 0,.bool false,.int .i64 0,.int .i64 0,.int .i64 0,.int .i64 0,.int .i64 0,.int .u64 0,.int .i64 0,.int .i64 0,.int .u64 0,.int .i64 0,.int .u64 0,.int .u64 0,.int .i64 0] 86)=x:=⟨_,rfl⟩
 rw [hw0] at HBE HBN HC
 simp only [hw0]
 clear hw0;generalize hb0:w.heap.size=b0 at *;have HZ:=Lib.hid hb0
 clear hb0;have n3:=HBN.out.cell' (i:=3) (v:=.pointer (some ⟨cb,0,none⟩)) rfl
 have nl:=HBN.out.lt
 have HC0:=Lib.hid (HCr.out w0 HC.out)
 have HCore:=Lib.hid (nCore_q n3 nl)
 go_wp2_with fail;refine HCore.out.mono ?_
 rintro e w9 ⟨rfl,hw⟩;subst hw;go_wp2_with fail;refine HC0.out.mono ?_
 rintro e w9 ⟨rfl,hw⟩;subst hw;go_upto_region 3 with fail;have HSt0:=Lib.hid fun w'' (k:Chg NoB w9 w'')=>HSt.out w'' (HC.out.step k)
 have g:=HBN.out.ever
 have gl:=HBN.out.everL
 have cc:=Chg.refl NoB w9
 clear n3 nl HC0 HCore HCr HSt;refine wp_region_mix 11 [(true,0),(true,1),(true,2),(true,3),(true,4),(true,5),(true,6),(true,7),(false,8),(true,9),(true,10)] (fun w'=>Chg NoB w9 w') (by kernel_rfl) (by kernel_rfl) (fun _ _ _ _ _ h=>h) (cc.drew) ?_
 simp only [pickMix_nil,pickMix_cons,Option.getD_some,List.getElem?_toArray,List.getElem?_cons_zero,List.getElem?_cons_succ,List.cons_append,List.nil_append,List.drop_succ_cons,List.drop_zero]
 iterate 8
  refine wpMix_take rfl ?_;apply Exists.intro;refine ⟨fun wS hS=>?_,?_⟩
  ·try dsimp only at hS
   have cS:=hS
   go_simp;try rfl
  simp only [Act.put,List.setIfInBounds_toArray,List.set_cons_zero,List.set_cons_succ]
 refine wpMix_force rfl (fun K hK=>?_)
 go_simp;refine (HSt0.out _ cc.drew).mono ?_
 rintro e wa ⟨vv,rfl,x0,x1,x2,x3,x5,x6,x7,x8,rfl,hCa⟩;have ca:=cc.drew.step hCa
 refine hK _ _ ca ?_
 clear hK K;iterate 2
  refine wpMix_take rfl ?_;apply Exists.intro;refine ⟨fun wS hS=>?_,?_⟩
  ·try dsimp only at hS
   have cS:=hS
   go_simp;try rfl
  simp only [Act.put,List.setIfInBounds_toArray,List.set_cons_zero,List.set_cons_succ]
 refine wpMix_nil ?_
 have HBE2:=ca.blk0 HBE.out
 have HBN2:=ca.blk0 HBN.out
 have HCa:=Lib.hid (HC.out.step ca)
 have HBE:=Lib.hid HBE2
 have HBN:=Lib.hid HBN2
 clear g gl cc hCa ca HBE2 HBN2 HSt0;go_upto_region 5 with fail;obtain ⟨wT,hwT⟩:∃x,wa=x:=⟨_,rfl⟩
 have HM2:=Lib.hid (HR.out.2.2.2.2.2.1.chg0 HCa.out)
 have HNb:Hid (¬Blks L cb nb):=Lib.hid (HR.out.2.2.2.2.2.2.2.2.1 nb HR.out.2.1).2
 have HLT:Hid (∀k,Blks L cb k→k<b0):=Lib.hid fun k hk=>HR.out.2.2.2.2.2.2.2.2.2.2 k (HR.out.2.2.2.2.2.2.2.1 k (.inr (.inr hk)))
 have HN0:Hid (¬Blks L cb b0):=Lib.hid fun e=>absurd (HLT.out _ e) (Nat.lt_irrefl _)
 have HLZ:Hid (b0<wa.heap.size):=Lib.hid HBE.out.lt
 have HU:Hid (∀w',Mc w' L s cb c→Calls Tryz.prog 137 #[.pointer (some ⟨L.pb,0,none⟩)] w' (RetW (.pointer (some ⟨L.ub,0,none⟩)) fun w''=>w''=w')):=Lib.hid fun w' k=>sUnit_any k.sp
 have HTy:Hid (∀w',Mc w' L s cb c→Calls Tryz.prog 136 #[.pointer (some ⟨cb,0,none⟩),.pointer (some ⟨L.ub,0,none⟩),.int .i64 0] w' (RetW (.agg #[.bool true,.int .i64 op,.int .i64 rd,.int .i64 rs,.int .i64 rt,.int .i64 im,.int .u64 pc,.int .i64 cause,.int .i64 access,.int .u64 addr,.int .i64 size,.int .u64 old,.int .u64 new]) fun w''=>∃L':Pl,Ext L L' w'∧Mc w'' L' { s with u:=u'} cb c'∧Chg (Blks L cb) w' w'')):=Lib.hid fun w' k=>by
  have:=mcTry_any (X:=nilCx) k HX.out.2 0 HX.out.1 (by decide) (by decide)
  rw [HQ.out] at this
  exact this
 have HC:Hid (Chg (Blks L cb) wT wa):=Lib.hid (hwT▸Chg.refl _ _)
 have HCT:Hid (Chg NoB w wT):=Lib.hid (hwT▸HCa.out)
 have HLZT:Hid (b0<wT.heap.size):=Lib.hid (hwT▸HLZ.out)
 go_cut [5] (fun s5 wx=>∃(db:Nat) (L':Pl),s5 = .pointer (some ⟨db,0,none⟩)∧Blk wx db #[.bool true,.int .i64 op,.int .i64 rd,.int .i64 rs,.int .i64 rt,.int .i64 im,.int .u64 pc,.int .i64 cause,.int .i64 access,.int .u64 addr,.int .i64 size,.int .u64 old,.int .u64 new] 69∧wT.heap.size≤db∧Ext L L' wT∧¬Blks L' cb db∧Mc wx L' { s with u:=u'} cb c'∧Blk wx b0 #[.int .i64 0,.bool false,.int .i64 0,.int .i64 0,.int .i64 0,.int .i64 0,.int .i64 0,.int .u64 0,.int .i64 0,.int .i64 0,.int .u64 0,.int .i64 0,.int .u64 0,.int .u64 0,.int .i64 0] 86∧Blk wx nb #[.int .i64 me,.pointer (some ⟨L.pb,0,none⟩),.pointer (some ⟨hb,0,none⟩),.pointer (some ⟨cb,0,none⟩),.slice vp n vc,.int .i64 page] 115∧Chg (Blks L cb) wT wx)
 case first=>
  clear hwT;refine wp_region_float 12 11 [(true,0),(true,1),(true,2),(true,3),(true,4),(true,5),(true,6),(true,7),(true,9),(false,8),(false,10)] [] (fun w'=>Chg (Blks L cb) wT w'∧w'.cell? ⟨nb,1,none⟩=some (.pointer (some ⟨L.pb,0,none⟩))∧w'.cell? ⟨nb,3,none⟩=some (.pointer (some ⟨cb,0,none⟩))) (by kernel_rfl) (by kernel_rfl) (fun _ _ _ _ _ h=>h) (⟨HC.out.drew,HBN.out.cell' (i:=1) rfl,HBN.out.cell' (i:=3) rfl⟩) ?_
  simp only [pickMix_nil,pickMix_cons,Option.getD_some,List.getElem?_toArray,List.getElem?_cons_zero,List.getElem?_cons_succ,List.cons_append,List.nil_append,List.drop_succ_cons,List.drop_zero]
  have C1:=(Chg.refl NoB wa).drew
  (try (replace HM2:=Lib.hid (HM2.out.chg0 C1)));(try (replace HME:=Lib.hid (HME.out.chg0 C1)));(try (replace HBN:=Lib.hid (Chg.blk0 C1 HBN.out)));(try (replace HBE:=Lib.hid (Chg.blk0 C1 HBE.out)));(try (replace HDB:=Lib.hid (Chg.blk0 C1 HDB.out)));(try (replace HC:=Lib.hid (Chg.then0 HC.out C1)))
  clear C1;generalize hW:wa.drew=W at *;clear hW;refine wpFloat_take rfl ?_;apply Exists.intro;refine ⟨fun wS hS=>?_,?_⟩
  ·try dsimp only at hS
   obtain ⟨cS,x1,x3⟩:=hS
   go_simp;try rfl
  simp only [Act.put,List.setIfInBounds_toArray,List.set_cons_zero,List.set_cons_succ]
  refine wpFloat_take rfl ?_;apply Exists.intro;refine ⟨fun wS hS=>?_,?_⟩
  ·try dsimp only at hS
   obtain ⟨cS,x1,x3⟩:=hS
   go_simp;try rfl
  simp only [Act.put,List.setIfInBounds_toArray,List.set_cons_zero,List.set_cons_succ]
  refine wpFloat_take rfl ?_;apply Exists.intro;refine ⟨fun wS hS=>?_,?_⟩
  ·try dsimp only at hS
   obtain ⟨cS,x1,x3⟩:=hS
   go_simp;try rfl
  simp only [Act.put,List.setIfInBounds_toArray,List.set_cons_zero,List.set_cons_succ]
  refine wpFloat_take rfl ?_;apply Exists.intro;refine ⟨fun wS hS=>?_,?_⟩
  ·try dsimp only at hS
   obtain ⟨cS,x1,x3⟩:=hS
   go_simp;try rfl
  simp only [Act.put,List.setIfInBounds_toArray,List.set_cons_zero,List.set_cons_succ]
  refine wpFloat_take rfl ?_;apply Exists.intro;refine ⟨fun wS hS=>?_,?_⟩
  ·try dsimp only at hS
   obtain ⟨cS,x1,x3⟩:=hS
   go_simp;try rfl
  simp only [Act.put,List.setIfInBounds_toArray,List.set_cons_zero,List.set_cons_succ]
  refine wpFloat_take rfl ?_;apply Exists.intro;refine ⟨fun wS hS=>?_,?_⟩
  ·try dsimp only at hS
   obtain ⟨cS,x1,x3⟩:=hS
   go_simp;try rfl
  simp only [Act.put,List.setIfInBounds_toArray,List.set_cons_zero,List.set_cons_succ]
  refine wpFloat_take rfl ?_;apply Exists.intro;refine ⟨fun wS hS=>?_,?_⟩
  ·try dsimp only at hS
   obtain ⟨cS,x1,x3⟩:=hS
   go_simp;try rfl
  simp only [Act.put,List.setIfInBounds_toArray,List.set_cons_zero,List.set_cons_succ]
  refine wpFloat_take rfl ?_;apply Exists.intro;refine ⟨fun wS hS=>?_,?_⟩
  ·try dsimp only at hS
   obtain ⟨cS,x1,x3⟩:=hS
   go_simp;try rfl
  simp only [Act.put,List.setIfInBounds_toArray,List.set_cons_zero,List.set_cons_succ]
  refine wpFloat_take rfl ?_;apply Exists.intro;refine ⟨fun wS hS=>?_,?_⟩
  ·try dsimp only at hS
   obtain ⟨cS,x1,x3⟩:=hS
   go_simp;try rfl
  simp only [Act.put,List.setIfInBounds_toArray,List.set_cons_zero,List.set_cons_succ]
  refine wpFloat_fork rfl (fun K hK=>?_) (fun K hK=>?_)
  ·go_simp;have HS0:Hid (wT.heap.size≤W.heap.size):=Lib.hid HC.out.size
   have HNL:Hid (¬Blks L cb W.heap.size):=Lib.hid fun e=>by have h1:=HLT.out _ e;have h2:=HS0.out;have h3:=HLZT.out;omega
   try have HND:Hid (¬Blks L' cb W.heap.size):=Lib.hid fun e=>absurd (HLL.out _ e) (Nat.lt_irrefl _)
   have C1:=(Chg.refl NoB W).alloc (.cells #[.bool false,.int .i64 0,.int .i64 0,.int .i64 0,.int .i64 0,.int .i64 0,.int .u64 0,.int .i64 0,.int .i64 0,.int .u64 0,.int .i64 0,.int .u64 0,.int .u64 0] 69)
   (try (replace HM2:=Lib.hid (HM2.out.chg0 C1)));(try (replace HME:=Lib.hid (HME.out.chg0 C1)));(try (replace HBN:=Lib.hid (Chg.blk0 C1 HBN.out)));(try (replace HBE:=Lib.hid (Chg.blk0 C1 HBE.out)));(try (replace HDB:=Lib.hid (Chg.blk0 C1 HDB.out)));(try (replace HC:=Lib.hid (Chg.then0 HC.out C1)))
   have HDB:Hid (Blk (W.alloc (.cells #[.bool false,.int .i64 0,.int .i64 0,.int .i64 0,.int .i64 0,.int .i64 0,.int .u64 0,.int .i64 0,.int .i64 0,.int .u64 0,.int .i64 0,.int .u64 0,.int .u64 0] 69)) W.heap.size #[.bool false,.int .i64 0,.int .i64 0,.int .i64 0,.int .i64 0,.int .i64 0,.int .u64 0,.int .i64 0,.int .i64 0,.int .u64 0,.int .i64 0,.int .u64 0,.int .u64 0] 69):=Lib.hid (Blk.new W _ 69)
   refine hK _ _ ⟨HC.out,HBN.out.cell' (i:=1) rfl,HBN.out.cell' (i:=3) rfl⟩ ?_
   clear hK K C1;generalize W.alloc (.cells #[.bool false,.int .i64 0,.int .i64 0,.int .i64 0,.int .i64 0,.int .i64 0,.int .u64 0,.int .i64 0,.int .i64 0,.int .u64 0,.int .i64 0,.int .u64 0,.int .u64 0] 69)=WN at *;generalize W.heap.size=db at *;rename World=>W;try simp only [List.cons_append,List.nil_append]
   refine wpMix_force rfl (fun K hK=>?_)
   go_simp;refine (HU.out _ HM2.out).mono ?_
   rintro e WN ⟨rfl,hWN⟩;subst hWN;rename World=>W;refine hK _ _ ⟨HC.out,HBN.out.cell' (i:=1) rfl,HBN.out.cell' (i:=3) rfl⟩ ?_
   clear hK K;refine wpMix_force rfl (fun K hK=>?_)
   go_simp;refine (HTy.out _ HM2.out).mono ?_
   rintro e WN ⟨rfl,L',hE,hMc,k5⟩;try have HND:Hid (¬Blks L' cb db):=Lib.hid (fun e=>by
    rcases e with e | e
    ·exact HNL.out (.inl e)
    ·rcases hE.2.2 _ e with e | e
     ·exact HNL.out (.inr e)
     ·have:=HDB.out.lt;omega)
   try (replace HDB:=Lib.hid (k5.blk HDB.out HNL.out))
   have HLL:Hid (∀k,Blks L' cb k→k<WN.heap.size):=Lib.hid fun k e=>by
    rcases e with e | e
    ·rw [e];exact hMc.co.blk.lt
    ·exact hMc.sp.lt k e
   have HEX:Hid (Ext L L' wT):=Lib.hid ⟨hE.1,hE.2.1,fun k hk=>(hE.2.2 k hk).imp id fun e=>Nat.le_trans HC.out.size e⟩
   have HME:=Lib.hid hMc
   replace HC:=Lib.hid (HC.out.step k5)
   replace HBN:=Lib.hid (k5.blk HBN.out HNb.out)
   replace HBE:=Lib.hid (k5.blk HBE.out HN0.out)
   refine hK _ _ ⟨HC.out,HBN.out.cell' (i:=1) rfl,HBN.out.cell' (i:=3) rfl⟩ ?_
   clear hK K hE hMc k5 HM2;rename World=>W;refine wpMix_nil ?_
   refine wpList_store_mid rfl _ _ _ rfl db 0 #[.bool true,.int .i64 op,.int .i64 rd,.int .i64 rs,.int .i64 rt,.int .i64 im,.int .u64 pc,.int .i64 cause,.int .i64 access,.int .u64 addr,.int .i64 size,.int .u64 old,.int .u64 new] rfl rfl (did_there HDB.out rfl) did_info (by simp [Value.oneCell']) ?_
   have HS:=store_all HDB.out [.bool true,.int .i64 op,.int .i64 rd,.int .i64 rs,.int .i64 rt,.int .i64 im,.int .u64 pc,.int .i64 cause,.int .i64 access,.int .u64 addr,.int .i64 size,.int .u64 old,.int .u64 new] rfl
   have hdn:=HND.out
   have CS:=HC.out.trans (S:=Blks L cb) HS.2 fun k hk e=>by have e:k=db:=e;have:=HS0.out;omega
   have HMF:Hid (Mc (W.setCells db 0 [.bool true,.int .i64 op,.int .i64 rd,.int .i64 rs,.int .i64 rt,.int .i64 im,.int .u64 pc,.int .i64 cause,.int .i64 access,.int .u64 addr,.int .i64 size,.int .u64 old,.int .u64 new]) L' { s with u:=u'} cb c'):=Lib.hid (HME.out.chg HS.2 fun k hk e=>by have e:k=db:=e;exact hdn (e▸hk))
   have BE:=HS.2.blk HBE.out (fun e=>by have e:b0=db:=e;have h1:=HS0.out;have h2:=HLZT.out;omega)
   have BN:=HS.2.blk HBN.out (fun e=>by have e:nb=db:=e;have h1:=HS0.out;have h2:=HLZT.out;omega)
   go_wp2_with fail;go_meet
   exact ⟨db,L',rfl,HS.1,HS0.out,HEX.out,hdn,HMF.out,BE,BN,CS⟩
  ·go_simp;refine (HU.out _ HM2.out).mono ?_
   rintro e WN ⟨rfl,hWN⟩;subst hWN;rename World=>W;refine hK _ _ ⟨HC.out,HBN.out.cell' (i:=1) rfl,HBN.out.cell' (i:=3) rfl⟩ ?_
   clear hK K;refine wpFloat_fork rfl (fun K hK=>?_) (fun K hK=>?_)
   ·go_simp;have HS0:Hid (wT.heap.size≤W.heap.size):=Lib.hid HC.out.size
    have HNL:Hid (¬Blks L cb W.heap.size):=Lib.hid fun e=>by have h1:=HLT.out _ e;have h2:=HS0.out;have h3:=HLZT.out;omega
    try have HND:Hid (¬Blks L' cb W.heap.size):=Lib.hid fun e=>absurd (HLL.out _ e) (Nat.lt_irrefl _)
    have C1:=(Chg.refl NoB W).alloc (.cells #[.bool false,.int .i64 0,.int .i64 0,.int .i64 0,.int .i64 0,.int .i64 0,.int .u64 0,.int .i64 0,.int .i64 0,.int .u64 0,.int .i64 0,.int .u64 0,.int .u64 0] 69)
    (try (replace HM2:=Lib.hid (HM2.out.chg0 C1)));(try (replace HME:=Lib.hid (HME.out.chg0 C1)));(try (replace HBN:=Lib.hid (Chg.blk0 C1 HBN.out)));(try (replace HBE:=Lib.hid (Chg.blk0 C1 HBE.out)));(try (replace HDB:=Lib.hid (Chg.blk0 C1 HDB.out)));(try (replace HC:=Lib.hid (Chg.then0 HC.out C1)))
    have HDB:Hid (Blk (W.alloc (.cells #[.bool false,.int .i64 0,.int .i64 0,.int .i64 0,.int .i64 0,.int .i64 0,.int .u64 0,.int .i64 0,.int .i64 0,.int .u64 0,.int .i64 0,.int .u64 0,.int .u64 0] 69)) W.heap.size #[.bool false,.int .i64 0,.int .i64 0,.int .i64 0,.int .i64 0,.int .i64 0,.int .u64 0,.int .i64 0,.int .i64 0,.int .u64 0,.int .i64 0,.int .u64 0,.int .u64 0] 69):=Lib.hid (Blk.new W _ 69)
    refine hK _ _ ⟨HC.out,HBN.out.cell' (i:=1) rfl,HBN.out.cell' (i:=3) rfl⟩ ?_
    clear hK K C1;generalize W.alloc (.cells #[.bool false,.int .i64 0,.int .i64 0,.int .i64 0,.int .i64 0,.int .i64 0,.int .u64 0,.int .i64 0,.int .i64 0,.int .u64 0,.int .i64 0,.int .u64 0,.int .u64 0] 69)=WN at *;generalize W.heap.size=db at *;rename World=>W;try simp only [List.cons_append,List.nil_append]
    refine wpMix_force rfl (fun K hK=>?_)
    go_simp;refine (HTy.out _ HM2.out).mono ?_
    rintro e WN ⟨rfl,L',hE,hMc,k5⟩;try have HND:Hid (¬Blks L' cb db):=Lib.hid (fun e=>by
     rcases e with e | e
     ·exact HNL.out (.inl e)
     ·rcases hE.2.2 _ e with e | e
      ·exact HNL.out (.inr e)
      ·have:=HDB.out.lt;omega)
    try (replace HDB:=Lib.hid (k5.blk HDB.out HNL.out))
    have HLL:Hid (∀k,Blks L' cb k→k<WN.heap.size):=Lib.hid fun k e=>by
     rcases e with e | e
     ·rw [e];exact hMc.co.blk.lt
     ·exact hMc.sp.lt k e
    have HEX:Hid (Ext L L' wT):=Lib.hid ⟨hE.1,hE.2.1,fun k hk=>(hE.2.2 k hk).imp id fun e=>Nat.le_trans HC.out.size e⟩
    have HME:=Lib.hid hMc
    replace HC:=Lib.hid (HC.out.step k5)
    replace HBN:=Lib.hid (k5.blk HBN.out HNb.out)
    replace HBE:=Lib.hid (k5.blk HBE.out HN0.out)
    refine hK _ _ ⟨HC.out,HBN.out.cell' (i:=1) rfl,HBN.out.cell' (i:=3) rfl⟩ ?_
    clear hK K hE hMc k5 HM2;rename World=>W;refine wpMix_nil ?_
    refine wpList_store_mid rfl _ _ _ rfl db 0 #[.bool true,.int .i64 op,.int .i64 rd,.int .i64 rs,.int .i64 rt,.int .i64 im,.int .u64 pc,.int .i64 cause,.int .i64 access,.int .u64 addr,.int .i64 size,.int .u64 old,.int .u64 new] rfl rfl (did_there HDB.out rfl) did_info (by simp [Value.oneCell']) ?_
    have HS:=store_all HDB.out [.bool true,.int .i64 op,.int .i64 rd,.int .i64 rs,.int .i64 rt,.int .i64 im,.int .u64 pc,.int .i64 cause,.int .i64 access,.int .u64 addr,.int .i64 size,.int .u64 old,.int .u64 new] rfl
    have hdn:=HND.out
    have CS:=HC.out.trans (S:=Blks L cb) HS.2 fun k hk e=>by have e:k=db:=e;have:=HS0.out;omega
    have HMF:Hid (Mc (W.setCells db 0 [.bool true,.int .i64 op,.int .i64 rd,.int .i64 rs,.int .i64 rt,.int .i64 im,.int .u64 pc,.int .i64 cause,.int .i64 access,.int .u64 addr,.int .i64 size,.int .u64 old,.int .u64 new]) L' { s with u:=u'} cb c'):=Lib.hid (HME.out.chg HS.2 fun k hk e=>by have e:k=db:=e;exact hdn (e▸hk))
    have BE:=HS.2.blk HBE.out (fun e=>by have e:b0=db:=e;have h1:=HS0.out;have h2:=HLZT.out;omega)
    have BN:=HS.2.blk HBN.out (fun e=>by have e:nb=db:=e;have h1:=HS0.out;have h2:=HLZT.out;omega)
    go_wp2_with fail;go_meet
    exact ⟨db,L',rfl,HS.1,HS0.out,HEX.out,hdn,HMF.out,BE,BN,CS⟩
   ·go_simp;refine (HTy.out _ HM2.out).mono ?_
    rintro e WN ⟨rfl,L',hE,hMc,k5⟩;try have HND:Hid (¬Blks L' cb db):=Lib.hid (fun e=>by
     rcases e with e | e
     ·exact HNL.out (.inl e)
     ·rcases hE.2.2 _ e with e | e
      ·exact HNL.out (.inr e)
      ·have:=HDB.out.lt;omega)
    try (replace HDB:=Lib.hid (k5.blk HDB.out HNL.out))
    have HLL:Hid (∀k,Blks L' cb k→k<WN.heap.size):=Lib.hid fun k e=>by
     rcases e with e | e
     ·rw [e];exact hMc.co.blk.lt
     ·exact hMc.sp.lt k e
    have HEX:Hid (Ext L L' wT):=Lib.hid ⟨hE.1,hE.2.1,fun k hk=>(hE.2.2 k hk).imp id fun e=>Nat.le_trans HC.out.size e⟩
    have HME:=Lib.hid hMc
    replace HC:=Lib.hid (HC.out.step k5)
    replace HBN:=Lib.hid (k5.blk HBN.out HNb.out)
    replace HBE:=Lib.hid (k5.blk HBE.out HN0.out)
    refine hK _ _ ⟨HC.out,HBN.out.cell' (i:=1) rfl,HBN.out.cell' (i:=3) rfl⟩ ?_
    clear hK K hE hMc k5 HM2;rename World=>W;refine wpFloat_nil (fun K hK=>?_)
    go_simp;have HS0:Hid (wT.heap.size≤W.heap.size):=Lib.hid HC.out.size
    have HNL:Hid (¬Blks L cb W.heap.size):=Lib.hid fun e=>by have h1:=HLT.out _ e;have h2:=HS0.out;have h3:=HLZT.out;omega
    try have HND:Hid (¬Blks L' cb W.heap.size):=Lib.hid fun e=>absurd (HLL.out _ e) (Nat.lt_irrefl _)
    have C1:=(Chg.refl NoB W).alloc (.cells #[.bool false,.int .i64 0,.int .i64 0,.int .i64 0,.int .i64 0,.int .i64 0,.int .u64 0,.int .i64 0,.int .i64 0,.int .u64 0,.int .i64 0,.int .u64 0,.int .u64 0] 69)
    (try (replace HM2:=Lib.hid (HM2.out.chg0 C1)));(try (replace HME:=Lib.hid (HME.out.chg0 C1)));(try (replace HBN:=Lib.hid (Chg.blk0 C1 HBN.out)));(try (replace HBE:=Lib.hid (Chg.blk0 C1 HBE.out)));(try (replace HDB:=Lib.hid (Chg.blk0 C1 HDB.out)));(try (replace HC:=Lib.hid (Chg.then0 HC.out C1)))
    have HDB:Hid (Blk (W.alloc (.cells #[.bool false,.int .i64 0,.int .i64 0,.int .i64 0,.int .i64 0,.int .i64 0,.int .u64 0,.int .i64 0,.int .i64 0,.int .u64 0,.int .i64 0,.int .u64 0,.int .u64 0] 69)) W.heap.size #[.bool false,.int .i64 0,.int .i64 0,.int .i64 0,.int .i64 0,.int .i64 0,.int .u64 0,.int .i64 0,.int .i64 0,.int .u64 0,.int .i64 0,.int .u64 0,.int .u64 0] 69):=Lib.hid (Blk.new W _ 69)
    refine hK _ _ ⟨HC.out,HBN.out.cell' (i:=1) rfl,HBN.out.cell' (i:=3) rfl⟩ ?_
    clear hK K C1;generalize W.alloc (.cells #[.bool false,.int .i64 0,.int .i64 0,.int .i64 0,.int .i64 0,.int .i64 0,.int .u64 0,.int .i64 0,.int .i64 0,.int .u64 0,.int .i64 0,.int .u64 0,.int .u64 0] 69)=WN at *;generalize W.heap.size=db at *;rename World=>W;refine wpMix_nil ?_
    refine wpList_store_mid rfl _ _ _ rfl db 0 #[.bool true,.int .i64 op,.int .i64 rd,.int .i64 rs,.int .i64 rt,.int .i64 im,.int .u64 pc,.int .i64 cause,.int .i64 access,.int .u64 addr,.int .i64 size,.int .u64 old,.int .u64 new] rfl rfl (did_there HDB.out rfl) did_info (by simp [Value.oneCell']) ?_
    have HS:=store_all HDB.out [.bool true,.int .i64 op,.int .i64 rd,.int .i64 rs,.int .i64 rt,.int .i64 im,.int .u64 pc,.int .i64 cause,.int .i64 access,.int .u64 addr,.int .i64 size,.int .u64 old,.int .u64 new] rfl
    have hdn:=HND.out
    have CS:=HC.out.trans (S:=Blks L cb) HS.2 fun k hk e=>by have e:k=db:=e;have:=HS0.out;omega
    have HMF:Hid (Mc (W.setCells db 0 [.bool true,.int .i64 op,.int .i64 rd,.int .i64 rs,.int .i64 rt,.int .i64 im,.int .u64 pc,.int .i64 cause,.int .i64 access,.int .u64 addr,.int .i64 size,.int .u64 old,.int .u64 new]) L' { s with u:=u'} cb c'):=Lib.hid (HME.out.chg HS.2 fun k hk e=>by have e:k=db:=e;exact hdn (e▸hk))
    have BE:=HS.2.blk HBE.out (fun e=>by have e:b0=db:=e;have h1:=HS0.out;have h2:=HLZT.out;omega)
    have BN:=HS.2.blk HBN.out (fun e=>by have e:nb=db:=e;have h1:=HS0.out;have h2:=HLZT.out;omega)
    go_wp2_with fail;go_meet
    exact ⟨db,L',rfl,HS.1,HS0.out,HEX.out,hdn,HMF.out,BE,BN,CS⟩
 case rest=>
 obtain ⟨db,L',rfl,hDB,hlo,hE,hnd,hMc,hE3,hN3,hC3⟩:=hcut
 rename World=>wx;clear HM2 HU HTy HC hwT;obtain ⟨-,b1',b2,b3,b4,b5,b6,f,d1,d2,bd⟩:=HR.out
 have hbz:=HZ.out
 have hzT:=HLZT.out
 have hszx:=hC3.size
 have hLn:∀k,Blks L' cb k→Blks L cb k∨wT.heap.size≤k:=fun k hk=>hk.elim (fun e=>.inl (.inl e)) fun e=>(hE.2.2 k e).imp .inr id
 have y3:=(b3.chg0 HCT.out).chg hC3 fun k hk e=>(d1 k hk).2 e
 have y4:=(b4.chg HCT.out fun _ _=>id).chg hC3 fun k hk e=>(d1 k hk).2 e
 have y6:HmW wx SH hb L'.pb me n ({ s with u:=u'} : Spc).shape.shared ps:=by rw [hE.1];exact (b6.chg0 HCT.out).chg hC3 d2
 have x1':Blk wx nb #[.int .i64 me,.pointer (some ⟨L'.pb,0,none⟩),.pointer (some ⟨hb,0,none⟩),.pointer (some ⟨cb,0,none⟩),.slice vp n vc,.int .i64 page] 115:=by rw [hE.1];exact hN3
 have hRx:=RNAt.make b1' x1' y3 y4 hMc y6 (fun k hk=>⟨(d1 k hk).1,fun e=>(hLn k e).elim (d1 k hk).2 fun e=>by have:=bd k (f k (.inl hk));omega⟩) (fun k hk e=>(hLn k e).elim (d2 k hk) fun e=>by have:=bd k (f k (.inr (.inl hk)));omega) (fun k hk=>by have:=bd k (f k (.inl hk));omega) (fun k hk=>by have:=bd k (f k (.inr (.inl hk)));omega)
 have hFx:∀k,(SK k∨SH k∨Blks L' cb k)→F k∨w.heap.size≤k:=fun k hk=>by
  rcases hk with h | h | h
  ·exact .inl (f k (.inl h))
  ·exact .inl (f k (.inr (.inl h)))
  ·exact (hLn k h).imp (fun e=>f k (.inr (.inr e))) (fun e=>by omega)
 have hCx:Chg F w wx:=(HCT.out.mono (S':=F) fun _ _ e=>e.elim).trans hC3 fun k _ e=>f k (.inr (.inr e))
 have hE3b:¬(SK b0∨SH b0∨Blks L' cb b0):=fun e=>by
  rcases e with h | h | h
  ·have:=bd _ (f _ (.inl h));omega
  ·have:=bd _ (f _ (.inr (.inl h)));omega
  ·rcases hLn _ h with h | h
   ·have:=bd _ (f _ (.inr (.inr h)));omega
   ·omega
 replace hszx:w.heap.size≤wx.heap.size:=by omega
 have hdnx:¬(SK db∨SH db∨Blks L' cb db):=fun e=>by
  rcases e with h | h | h
  ·have:=bd _ (f _ (.inl h));omega
  ·have:=bd _ (f _ (.inr (.inl h)));omega
  ·exact hnd h
 clear b1' b2 b3 b4 b5 b6 f d1 d2 bd hlo hLn y3 y4 y6 hN3 hC3 hbz hzT hnd;have HDx:=HDn.out wx _ hRx
 have HDx:Calls Tryz.prog 138 #[.pointer (some ⟨nb,0,none⟩),.agg #[.bool true,.int .i64 op,.int .i64 rd,.int .i64 rs,.int .i64 rt,.int .i64 im,.int .u64 pc,.int .i64 cause,.int .i64 access,.int .u64 addr,.int .i64 size,.int .u64 old,.int .u64 new]] wx (RetW (.agg #[.int .i64 2,.bool true,.int .i64 op,.int .i64 rd,.int .i64 rs,.int .i64 rt,.int .i64 im,.int .u64 pc,.int .i64 cause,.int .i64 access,.int .u64 addr,.int .i64 size,.int .u64 old,.int .u64 new,.int .i64 ev]) fun w''=>∃F'',RNAt w'' F'' nb me n page2 s2 c' ps2∧(∀k,F'' k→(SK k∨SH k∨Blks L' cb k)∨wx.heap.size≤k)∧Chg (fun k=>SK k∨SH k∨Blks L' cb k) wx w''):=HDx
 have HDx:=Lib.hid HDx
 have dd:=hDB.cell
 have ddl:=hDB.lt
 have HDB:=Lib.hid hDB
 have HE3:=Lib.hid hE3
 have HFx:=Lib.hid (And.intro hFx (And.intro hCx (And.intro hE3b hszx)))
 clear hRx hDB hE3 hFx hCx hE3b hszx;go_wp2_with fail;refine HDx.out.mono ?_
 rintro e w5 ⟨rfl,F5,hR5,hF5,hC5⟩;have y3:=hC5.blk HE3.out HFx.out.2.2.1
 have HSA:=store_all y3 [.int .i64 2,.bool true,.int .i64 op,.int .i64 rd,.int .i64 rs,.int .i64 rt,.int .i64 im,.int .u64 pc,.int .i64 cause,.int .i64 access,.int .u64 addr,.int .i64 size,.int .u64 old,.int .u64 new,.int .i64 ev] rfl
 have hbz:=HZ.out
 have HF:Hid (∃F'',RNAt (w5.setCells b0 0 [.int .i64 2,.bool true,.int .i64 op,.int .i64 rd,.int .i64 rs,.int .i64 rt,.int .i64 im,.int .u64 pc,.int .i64 cause,.int .i64 access,.int .u64 addr,.int .i64 size,.int .u64 old,.int .u64 new,.int .i64 ev]) F'' nb me n page2 s2 c' ps2∧(∀k,F'' k→F k∨w.heap.size≤k)∧Chg F w (w5.setCells b0 0 [.int .i64 2,.bool true,.int .i64 op,.int .i64 rd,.int .i64 rs,.int .i64 rt,.int .i64 im,.int .u64 pc,.int .i64 cause,.int .i64 access,.int .u64 addr,.int .i64 size,.int .u64 old,.int .u64 new,.int .i64 ev])):=Lib.hid ⟨F5,hR5.chg HSA.2 (fun k hk (e:k=b0)=>(hF5 k hk).elim (fun h=>HFx.out.2.2.1 (e▸h)) fun h=>by have h1:=HFx.out.2.2.2;have h2:=HE3.out.lt;omega),fun k hk=>(hF5 k hk).elim (HFx.out.1 k) fun e=>.inr (by have h1:=HFx.out.2.2.2;omega),(HFx.out.2.1.trans hC5 fun k hk e=>(HFx.out.1 k e).elim id fun e=>by omega).trans HSA.2 fun k hk e=>by have e:k=b0:=e;omega⟩
 obtain ⟨w6,hw6⟩:∃x,w5.setCells b0 0 [.int .i64 2,.bool true,.int .i64 op,.int .i64 rd,.int .i64 rs,.int .i64 rt,.int .i64 im,.int .u64 pc,.int .i64 cause,.int .i64 access,.int .u64 addr,.int .i64 size,.int .u64 old,.int .u64 new,.int .i64 ev]=x:=⟨_,rfl⟩
 rw [hw6] at HF HSA
 replace hw6:(((((((((((((((w5.setCell ⟨b0,0,none⟩ (.int .i64 2)).setCell ⟨b0,1,none⟩ (.bool true)).setCell ⟨b0,2,none⟩ (.int .i64 op)).setCell ⟨b0,3,none⟩ (.int .i64 rd)).setCell ⟨b0,4,none⟩ (.int .i64 rs)).setCell ⟨b0,5,none⟩ (.int .i64 rt)).setCell ⟨b0,6,none⟩ (.int .i64 im)).setCell ⟨b0,7,none⟩ (.int .u64 pc)).setCell ⟨b0,8,none⟩ (.int .i64 cause)).setCell ⟨b0,9,none⟩ (.int .i64 access)).setCell ⟨b0,10,none⟩ (.int .u64 addr)).setCell ⟨b0,11,none⟩ (.int .i64 size)).setCell ⟨b0,12,none⟩ (.int .u64 old)).setCell ⟨b0,13,none⟩ (.int .u64 new)).setCell ⟨b0,14,none⟩ (.int .i64 ev))=w6:=hw6
 have k:=y3.cell
 have kz:=y3.frozen
 have kl:=y3.lt
 have q:=HSA.1.cell
 have ql:=HSA.1.lt
 clear dd ddl y3 HSA hR5 hF5 hC5 hbz;go_wp2_with fail;exact bodyPost_ret (v:=.agg #[.int .i64 2,.bool true,.int .i64 op,.int .i64 rd,.int .i64 rs,.int .i64 rt,.int .i64 im,.int .u64 pc,.int .i64 cause,.int .i64 access,.int .u64 addr,.int .i64 size,.int .u64 old,.int .u64 new,.int .i64 ev]) (by simp [results,Tryz.results99,go_sem,q]) rfl ⟨rfl,HF.out⟩
theorem lks_apart {w:World} {SK:Nat→Prop} {nb pb hb cb n me:Nat} {v:Value} {page:Int} {cs:List Value} {x1 x2 x3:Array Value} (hn:2≤n) (b2:Blk w nb #[.int .i64 me,.pointer (some ⟨pb,0,none⟩),.pointer (some ⟨hb,0,none⟩),.pointer (some ⟨cb,0,none⟩),v,.int .i64 page] 115) (b3:Sl w SK 1 v n cs) (b4:LksAt w SK me n cs)
  (e1:Blk w pb x1 162) (e2:Blk w hb x2 186) (e3:Blk w cb x3 183):Sl w (fun k=>SK k∧k≠nb) 1 v n cs∧LksAt w (fun k=>SK k∧k≠nb) me n cs:=by
 constructor
 ·obtain ⟨hl,p,cap,hv,hc,hr⟩:=b3
  refine ⟨hl,p,cap,hv,hc,fun h=>?_⟩
  obtain ⟨g,off,hp,hg,hgl,hcell⟩:=hr h
  refine ⟨g,off,hp,⟨hg,fun e=>?_⟩,hgl,hcell⟩
  subst e;obtain ⟨j,hj,hjm⟩:∃j,j<n∧j≠me:=by
   by_cases e:me=0
   ·exact ⟨1,by omega,by omega⟩
   ·exact ⟨0,by omega,fun h=>e h.symm⟩
  obtain ⟨v',hcs,-,hL⟩:=b4 j hj
  obtain ⟨lb,sb,rb,rfl,-,-,l1,-,-⟩:=hL hjm
  have h1:=hcell j _ hcs
  rw [b2.cell] at h1
  generalize off+j=i at h1
  subst hv;rcases i with _ | _ | _ | _ | _ | _ | i
  ·cases h1
  ·cases h1;exact absurd (l1.inj e1).2 (by decide)
  ·cases h1;exact absurd (l1.inj e2).2 (by decide)
  ·cases h1;exact absurd (l1.inj e3).2 (by decide)
  ·cases h1
  ·cases h1
  ·cases h1
 ·intro j hj;obtain ⟨v',hcs,h0,hL⟩:=b4 j hj
  refine ⟨v',hcs,h0,fun e=>?_⟩
  obtain ⟨lb,sb,rb,hv,s1,s2,l1,l2,mb,⟨s3,s4⟩,l3,l4⟩:=hL e
  refine ⟨lb,sb,rb,hv,⟨s1,fun e=>?_⟩,⟨s2,fun e=>?_⟩,l1,l2,mb,⟨⟨s3,fun e=>?_⟩,⟨s4,fun e=>?_⟩⟩,l3,l4⟩
  ·rw [e] at l1;exact absurd (l1.inj b2).2 (by decide)
  ·rw [e] at l2;exact absurd (l2.inj b2).2 (by decide)
  ·rw [e] at l3;exact absurd (l3.inj b2).2 (by decide)
  ·rw [e] at l4
   have b2:w.heap[nb]? = some (.cells _ 115 (0,0)):=b2
   rw [l4] at b2
   cases b2
theorem lks_set {w:World} {SK:Nat→Prop} {nb pb hb cb n me:Nat} {v:Value} {page:Int} {cs:List Value} {x1 x2 x3:Array Value} (hn:2≤n) (b2:Blk w nb #[.int .i64 me,.pointer (some ⟨pb,0,none⟩),.pointer (some ⟨hb,0,none⟩),.pointer (some ⟨cb,0,none⟩),v,.int .i64 page] 115) (b3:Sl w SK 1 v n cs) (b4:LksAt w SK me n cs)
  (e1:Blk w pb x1 162) (e2:Blk w hb x2 186) (e3:Blk w cb x3 183) {w':World} (c:Chg (fun k=>k=nb) w w'):Sl w' SK 1 v n cs∧LksAt w' SK me n cs:=by
 obtain ⟨h1,h2⟩:=lks_apart hn b2 b3 b4 e1 e2 e3
 exact ⟨(h1.chg c fun k hk=>hk.2).mono fun k hk=>hk.1,(h2.chg c fun k hk=>hk.2).mono fun k _ hk=>hk.1⟩
end Go.Proofs.YtjhnnjgnkkjmkaaGreatDoor
