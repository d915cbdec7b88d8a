/- Nodes that run: a turn of the core that faults at a page of one's own. No condition. -/
import Derived.Test.YtjhnnjgnkkjmkaaGreatDoorIc
import Derived.Test.YtjhnnjgnkkjmkaaGreatDoorGd
set_option maxHeartbeats 4000000
set_option maxRecDepth 100000
set_option linter.unusedVariables false
set_option linter.unusedSimpArgs false
namespace Go.Proofs.YtjhnnjgnkkjmkaaGreatDoor
open Go.RowKit Go.RR
theorem nRun_fault {w:World} {F:Nat→Prop} {nb me n:Nat} {page:Int} {s:Spc} {c:Cor} {ps:List (Int×Nat×PgS)} (h:RNAt w F nb me n page s c ps) (hr:c.run=0) (hno:NoWait ps page s.shape.shared) (hX:∀j,instG (readF s.u c.pc 4 0 0).1.1=some j→CxFor nilCx j.op) (T:DidP×Cor×Mu) (hT:tryF nilCx c s.u 0=T) (hd:T.1.done=false)
  (hsz:0<T.1.size) (hca:T.1.cause=13∨T.1.cause=15) (hac:T.1.access=1∨T.1.access=2) (num:Nat) (ha:(T.1.addr:Int)=1073741824+4096*(num:Int)) (hnum:(num:Int)<s.shape.shared) (hsh:s.shape.shared≤65536) (hnew:hLook ps num=none) (hown:(num:Int)%n=me) (hn:2≤n) (hn2:n≤16)
  (hset:SetOk { s with u:=T.2.2} num 2) (hshape:(setF { s with u:=T.2.2} num 2).2.shape=s.shape) :
  Calls Tryz.prog 99 #[.pointer (some ⟨nb,0,none⟩),.int .i64 0] w (RetW (.agg (#[.int .i64 3] ++ T.1.cells ++ #[.int .i64 num])) fun w''=>∃(F'':Nat→Prop) (ps2:List (Int×Nat×PgS)) (pb:Nat),RNAt w'' F'' nb me n num (setF { s with u:=T.2.2} num 2).2 T.2.1 ps2∧hLook ps2 num=some (pb,holdF (pgNewF me me) 2)∧(∀k,F'' k→F k∨w.heap.size≤k)∧Chg F w w''):=by
 have HQ:=Lib.hid hT
 have HG:=Lib.hid (And.intro hsz (And.intro hca (And.intro hac (And.intro ha (And.intro hnum (And.intro hsh (And.intro hnew (And.intro hown (And.intro hn (And.intro hn2 (And.intro hset hshape)))))))))))
 clear hT hsz hca hac ha hnum hsh hnew hown hn hn2 hset hshape;obtain ⟨⟨done,⟨op,rd,rs,rt,im⟩,pc,cause,access,addr,size,old,new⟩,c',u'⟩:=T
 have hd:done=false:=hd
 subst hd;show Calls _ _ _ _ (RetW (.agg #[.int .i64 3,.bool false,.int .i64 op,.int .i64 rd,.int .i64 rs,.int .i64 rt,.int .i64 im,.int .u64 pc,.int .i64 cause,.int .i64 access,.int .u64 addr,.int .i64 size,.int .u64 old,.int .u64 new,.int .i64 num]) fun w''=>∃(F'':Nat→Prop) (ps2:List (Int×Nat×PgS)) (pb:Nat),RNAt w'' F'' nb me n num (setF { s with u:=u'} num 2).2 c' ps2∧hLook ps2 num=some (pb,holdF (pgNewF me me) 2)∧(∀k,F'' k→F k∨w.heap.size≤k)∧Chg F w w'')
 obtain ⟨L,hb,cb,v,cs,SK,SH,b1,b2,b3,b4,b5,b6,f,d1,d2⟩:=h.ex
 obtain ⟨vp,vc,rfl⟩:=b3.form
 have c0:=(Chg.refl NoB w).alloc (.cells #[.int .i64 0,.bool false,.int .i64 0,.int .i64 0,.int .i64 0,.int .i64 0,.int .i64 0,.int .u64 0,.int .i64 0,.int .i64 0,.int .u64 0,.int .i64 0,.int .u64 0,.int .u64 0,.int .i64 0] 86)
 have HBE:=Lib.hid (Blk.new w #[.int .i64 0,.bool false,.int .i64 0,.int .i64 0,.int .i64 0,.int .i64 0,.int .i64 0,.int .u64 0,.int .i64 0,.int .i64 0,.int .u64 0,.int .i64 0,.int .u64 0,.int .u64 0,.int .i64 0] 86)
 have HBN:=Lib.hid (c0.blk0 b2)
 have HC:=Lib.hid c0
 have HCr:=Lib.hid fun w' (k:Chg NoB w w')=>cRun_q (b5.co.chg k id)
 rw [hr] at HCr
 have HSt:=Lib.hid fun w' (k:Chg NoB w w')=>hState_nowait (b6.chg0 k) page hno
 have HR:=Lib.hid (And.intro h (And.intro b1 (And.intro b2 (And.intro b3 (And.intro b4 (And.intro b5 (And.intro b6 (And.intro f (And.intro d1 (And.intro d2 h.bd))))))))))
 have HX:=Lib.hid (And.intro hX hr)
 have hnl:=b2.lt
 clear h b1 b2 b3 b4 b5 b6 f d1 d2 c0 hX hr hno;have hfw:=st_want
 go_enter Tryz.func99,Tryz.ntmps99;go_upto_region 1 with fail;obtain ⟨w0,hw0⟩:∃x,w.alloc (.cells #[.int .i64 0,.bool false,.int .i64 0,.int .i64 0,.int .i64 0,.int .i64 0,.int .i64 0,.int .u64 0,.int .i64 0,.int .i64 0,.int .u64 0,.int .i64 0,.int .u64 0,.int .u64 0,.int .i64 0] 86)=x:=⟨_,rfl⟩
 rw [hw0] at HBE HBN HC
 simp only [hw0]
 clear hw0;generalize hb0:w.heap.size=b0 at *;have HZ:=Lib.hid hb0
 clear hb0;have n3:=HBN.out.cell' (i:=3) (v:=.pointer (some ⟨cb,0,none⟩)) rfl
 have nl:=HBN.out.lt
 have HC0:=Lib.hid (HCr.out w0 HC.out)
 have HCore:=Lib.hid (nCore_q n3 nl)
 go_wp2_with fail;refine HCore.out.mono ?_
 rintro e w9 ⟨rfl,hw⟩;subst hw;go_wp2_with fail;refine HC0.out.mono ?_
 rintro e w9 ⟨rfl,hw⟩;subst hw;go_upto_region 3 with fail;have HSt0:=Lib.hid fun w'' (k:Chg NoB w9 w'')=>HSt.out w'' (HC.out.step k)
 have g:=HBN.out.ever
 have gl:=HBN.out.everL
 have cc:=Chg.refl NoB w9
 clear n3 nl HC0 HCore HCr HSt;refine wp_region_mix 11 [(true,0),(true,1),(true,2),(true,3),(true,4),(true,5),(true,6),(true,7),(false,8),(true,9),(true,10)] (fun w'=>Chg NoB w9 w') (by kernel_rfl) (by kernel_rfl) (fun _ _ _ _ _ h=>h) (cc.drew) ?_
 simp only [pickMix_nil,pickMix_cons,Option.getD_some,List.getElem?_toArray,List.getElem?_cons_zero,List.getElem?_cons_succ,List.cons_append,List.nil_append,List.drop_succ_cons,List.drop_zero]
 iterate 8
  refine wpMix_take rfl ?_;apply Exists.intro;refine ⟨fun wS hS=>?_,?_⟩
  ·try dsimp only at hS
   have cS:=hS
   go_simp;try rfl
  simp only [Act.put,List.setIfInBounds_toArray,List.set_cons_zero,List.set_cons_succ]
 refine wpMix_force rfl (fun K hK=>?_)
 go_simp;refine (HSt0.out _ cc.drew).mono ?_
 rintro e wa ⟨vv,rfl,x0,x1,x2,x3,x5,x6,x7,x8,rfl,hCa⟩;have ca:=cc.drew.step hCa
 refine hK _ _ ca ?_
 clear hK K;iterate 2
  refine wpMix_take rfl ?_;apply Exists.intro;refine ⟨fun wS hS=>?_,?_⟩
  ·try dsimp only at hS
   have cS:=hS
   go_simp;try rfl
  simp only [Act.put,List.setIfInBounds_toArray,List.set_cons_zero,List.set_cons_succ]
 refine wpMix_nil ?_
 have HBE2:=ca.blk0 HBE.out
 have HBN2:=ca.blk0 HBN.out
 have HCa:=Lib.hid (HC.out.step ca)
 have HBE:=Lib.hid HBE2
 have HBN:=Lib.hid HBN2
 clear g gl cc hCa ca HBE2 HBN2 HSt0;go_upto_region 5 with fail;obtain ⟨wT,hwT⟩:∃x,wa=x:=⟨_,rfl⟩
 have HM2:=Lib.hid (HR.out.2.2.2.2.2.1.chg0 HCa.out)
 have HNb:Hid (¬Blks L cb nb):=Lib.hid (HR.out.2.2.2.2.2.2.2.2.1 nb HR.out.2.1).2
 have HLT:Hid (∀k,Blks L cb k→k<b0):=Lib.hid fun k hk=>HR.out.2.2.2.2.2.2.2.2.2.2 k (HR.out.2.2.2.2.2.2.2.1 k (.inr (.inr hk)))
 have HN0:Hid (¬Blks L cb b0):=Lib.hid fun e=>absurd (HLT.out _ e) (Nat.lt_irrefl _)
 have HLZ:Hid (b0<wa.heap.size):=Lib.hid HBE.out.lt
 have HU:Hid (∀w',Mc w' L s cb c→Calls Tryz.prog 137 #[.pointer (some ⟨L.pb,0,none⟩)] w' (RetW (.pointer (some ⟨L.ub,0,none⟩)) fun w''=>w''=w')):=Lib.hid fun w' k=>sUnit_any k.sp
 have HTy:Hid (∀w',Mc w' L s cb c→Calls Tryz.prog 136 #[.pointer (some ⟨cb,0,none⟩),.pointer (some ⟨L.ub,0,none⟩),.int .i64 0] w' (RetW (.agg #[.bool false,.int .i64 op,.int .i64 rd,.int .i64 rs,.int .i64 rt,.int .i64 im,.int .u64 pc,.int .i64 cause,.int .i64 access,.int .u64 addr,.int .i64 size,.int .u64 old,.int .u64 new]) fun w''=>∃L':Pl,Ext L L' w'∧Mc w'' L' { s with u:=u'} cb c'∧Chg (Blks L cb) w' w'')):=Lib.hid fun w' k=>by
  have:=mcTry_any (X:=nilCx) k HX.out.2 0 HX.out.1 (by decide) (by decide)
  rw [HQ.out] at this
  exact this
 have HC:Hid (Chg (Blks L cb) wT wa):=Lib.hid (hwT▸Chg.refl _ _)
 have HCT:Hid (Chg NoB w wT):=Lib.hid (hwT▸HCa.out)
 have HLZT:Hid (b0<wT.heap.size):=Lib.hid (hwT▸HLZ.out)
 go_cut [5] (fun s5 wx=>∃(db:Nat) (L':Pl),s5 = .pointer (some ⟨db,0,none⟩)∧Blk wx db #[.bool false,.int .i64 op,.int .i64 rd,.int .i64 rs,.int .i64 rt,.int .i64 im,.int .u64 pc,.int .i64 cause,.int .i64 access,.int .u64 addr,.int .i64 size,.int .u64 old,.int .u64 new] 69∧wT.heap.size≤db∧Ext L L' wT∧¬Blks L' cb db∧Mc wx L' { s with u:=u'} cb c'∧Blk wx b0 #[.int .i64 0,.bool false,.int .i64 0,.int .i64 0,.int .i64 0,.int .i64 0,.int .i64 0,.int .u64 0,.int .i64 0,.int .i64 0,.int .u64 0,.int .i64 0,.int .u64 0,.int .u64 0,.int .i64 0] 86∧Blk wx nb #[.int .i64 me,.pointer (some ⟨L.pb,0,none⟩),.pointer (some ⟨hb,0,none⟩),.pointer (some ⟨cb,0,none⟩),.slice vp n vc,.int .i64 page] 115∧Chg (Blks L cb) wT wx)
 case first=>
  clear hwT;refine wp_region_float 12 11 [(true,0),(true,1),(true,2),(true,3),(true,4),(true,5),(true,6),(true,7),(true,9),(false,8),(false,10)] [] (fun w'=>Chg (Blks L cb) wT w'∧w'.cell? ⟨nb,1,none⟩=some (.pointer (some ⟨L.pb,0,none⟩))∧w'.cell? ⟨nb,3,none⟩=some (.pointer (some ⟨cb,0,none⟩))) (by kernel_rfl) (by kernel_rfl) (fun _ _ _ _ _ h=>h) (⟨HC.out.drew,HBN.out.cell' (i:=1) rfl,HBN.out.cell' (i:=3) rfl⟩) ?_
  simp only [pickMix_nil,pickMix_cons,Option.getD_some,List.getElem?_toArray,List.getElem?_cons_zero,List.getElem?_cons_succ,List.cons_append,List.nil_append,List.drop_succ_cons,List.drop_zero]
  have C1:=(Chg.refl NoB wa).drew
  (try (replace HM2:=Lib.hid (HM2.out.chg0 C1)));(try (replace HME:=Lib.hid (HME.out.chg0 C1)));(try (replace HBN:=Lib.hid (Chg.blk0 C1 HBN.out)));(try (replace HBE:=Lib.hid (Chg.blk0 C1 HBE.out)));(try (replace HDB:=Lib.hid (Chg.blk0 C1 HDB.out)));(try (replace HC:=Lib.hid (Chg.then0 HC.out C1)))
  clear C1;generalize hW:wa.drew=W at *;clear hW;refine wpFloat_take rfl ?_;apply Exists.intro;refine ⟨fun wS hS=>?_,?_⟩
  ·try dsimp only at hS
   obtain ⟨cS,x1,x3⟩:=hS
   go_simp;try rfl
  simp only [Act.put,List.setIfInBounds_toArray,List.set_cons_zero,List.set_cons_succ]
  refine wpFloat_take rfl ?_;apply Exists.intro;refine ⟨fun wS hS=>?_,?_⟩
  ·try dsimp only at hS
   obtain ⟨cS,x1,x3⟩:=hS
   go_simp;try rfl
  simp only [Act.put,List.setIfInBounds_toArray,List.set_cons_zero,List.set_cons_succ]
  refine wpFloat_take rfl ?_;apply Exists.intro;refine ⟨fun wS hS=>?_,?_⟩
  ·try dsimp only at hS
   obtain ⟨cS,x1,x3⟩:=hS
   go_simp;try rfl
  simp only [Act.put,List.setIfInBounds_toArray,List.set_cons_zero,List.set_cons_succ]
  refine wpFloat_take rfl ?_;apply Exists.intro;refine ⟨fun wS hS=>?_,?_⟩
  ·try dsimp only at hS
   obtain ⟨cS,x1,x3⟩:=hS
   go_simp;try rfl
  simp only [Act.put,List.setIfInBounds_toArray,List.set_cons_zero,List.set_cons_succ]
  refine wpFloat_take rfl ?_;apply Exists.intro;refine ⟨fun wS hS=>?_,?_⟩
  ·try dsimp only at hS
   obtain ⟨cS,x1,x3⟩:=hS
   go_simp;try rfl
  simp only [Act.put,List.setIfInBounds_toArray,List.set_cons_zero,List.set_cons_succ]
  refine wpFloat_take rfl ?_;apply Exists.intro;refine ⟨fun wS hS=>?_,?_⟩
  ·try dsimp only at hS
   obtain ⟨cS,x1,x3⟩:=hS
   go_simp;try rfl
  simp only [Act.put,List.setIfInBounds_toArray,List.set_cons_zero,List.set_cons_succ]
  refine wpFloat_take rfl ?_;apply Exists.intro;refine ⟨fun wS hS=>?_,?_⟩
  ·try dsimp only at hS
   obtain ⟨cS,x1,x3⟩:=hS
   go_simp;try rfl
  simp only [Act.put,List.setIfInBounds_toArray,List.set_cons_zero,List.set_cons_succ]
  refine wpFloat_take rfl ?_;apply Exists.intro;refine ⟨fun wS hS=>?_,?_⟩
  ·try dsimp only at hS
   obtain ⟨cS,x1,x3⟩:=hS
   go_simp;try rfl
  simp only [Act.put,List.setIfInBounds_toArray,List.set_cons_zero,List.set_cons_succ]
  refine wpFloat_take rfl ?_;apply Exists.intro;refine ⟨fun wS hS=>?_,?_⟩
  ·try dsimp only at hS
   obtain ⟨cS,x1,x3⟩:=hS
   go_simp;try rfl
  simp only [Act.put,List.setIfInBounds_toArray,List.set_cons_zero,List.set_cons_succ]
  refine wpFloat_fork rfl (fun K hK=>?_) (fun K hK=>?_)
  ·go_simp;have HS0:Hid (wT.heap.size≤W.heap.size):=Lib.hid HC.out.size
   have HNL:Hid (¬Blks L cb W.heap.size):=Lib.hid fun e=>by have h1:=HLT.out _ e;have h2:=HS0.out;have h3:=HLZT.out;omega
   try have HND:Hid (¬Blks L' cb W.heap.size):=Lib.hid fun e=>absurd (HLL.out _ e) (Nat.lt_irrefl _)
   have C1:=(Chg.refl NoB W).alloc (.cells #[.bool false,.int .i64 0,.int .i64 0,.int .i64 0,.int .i64 0,.int .i64 0,.int .u64 0,.int .i64 0,.int .i64 0,.int .u64 0,.int .i64 0,.int .u64 0,.int .u64 0] 69)
   (try (replace HM2:=Lib.hid (HM2.out.chg0 C1)));(try (replace HME:=Lib.hid (HME.out.chg0 C1)));(try (replace HBN:=Lib.hid (Chg.blk0 C1 HBN.out)));(try (replace HBE:=Lib.hid (Chg.blk0 C1 HBE.out)));(try (replace HDB:=Lib.hid (Chg.blk0 C1 HDB.out)));(try (replace HC:=Lib.hid (Chg.then0 HC.out C1)))
   have HDB:Hid (Blk (W.alloc (.cells #[.bool false,.int .i64 0,.int .i64 0,.int .i64 0,.int .i64 0,.int .i64 0,.int .u64 0,.int .i64 0,.int .i64 0,.int .u64 0,.int .i64 0,.int .u64 0,.int .u64 0] 69)) W.heap.size #[.bool false,.int .i64 0,.int .i64 0,.int .i64 0,.int .i64 0,.int .i64 0,.int .u64 0,.int .i64 0,.int .i64 0,.int .u64 0,.int .i64 0,.int .u64 0,.int .u64 0] 69):=Lib.hid (Blk.new W _ 69)
   refine hK _ _ ⟨HC.out,HBN.out.cell' (i:=1) rfl,HBN.out.cell' (i:=3) rfl⟩ ?_
   clear hK K C1;generalize W.alloc (.cells #[.bool false,.int .i64 0,.int .i64 0,.int .i64 0,.int .i64 0,.int .i64 0,.int .u64 0,.int .i64 0,.int .i64 0,.int .u64 0,.int .i64 0,.int .u64 0,.int .u64 0] 69)=WN at *;generalize W.heap.size=db at *;rename World=>W;try simp only [List.cons_append,List.nil_append]
   refine wpMix_force rfl (fun K hK=>?_)
   go_simp;refine (HU.out _ HM2.out).mono ?_
   rintro e WN ⟨rfl,hWN⟩;subst hWN;rename World=>W;refine hK _ _ ⟨HC.out,HBN.out.cell' (i:=1) rfl,HBN.out.cell' (i:=3) rfl⟩ ?_
   clear hK K;refine wpMix_force rfl (fun K hK=>?_)
   go_simp;refine (HTy.out _ HM2.out).mono ?_
   rintro e WN ⟨rfl,L',hE,hMc,k5⟩;try have HND:Hid (¬Blks L' cb db):=Lib.hid (fun e=>by
    rcases e with e | e
    ·exact HNL.out (.inl e)
    ·rcases hE.2.2 _ e with e | e
     ·exact HNL.out (.inr e)
     ·have:=HDB.out.lt;omega)
   try (replace HDB:=Lib.hid (k5.blk HDB.out HNL.out))
   have HLL:Hid (∀k,Blks L' cb k→k<WN.heap.size):=Lib.hid fun k e=>by
    rcases e with e | e
    ·rw [e];exact hMc.co.blk.lt
    ·exact hMc.sp.lt k e
   have HEX:Hid (Ext L L' wT):=Lib.hid ⟨hE.1,hE.2.1,fun k hk=>(hE.2.2 k hk).imp id fun e=>Nat.le_trans HC.out.size e⟩
   have HME:=Lib.hid hMc
   replace HC:=Lib.hid (HC.out.step k5)
   replace HBN:=Lib.hid (k5.blk HBN.out HNb.out)
   replace HBE:=Lib.hid (k5.blk HBE.out HN0.out)
   refine hK _ _ ⟨HC.out,HBN.out.cell' (i:=1) rfl,HBN.out.cell' (i:=3) rfl⟩ ?_
   clear hK K hE hMc k5 HM2;rename World=>W;refine wpMix_nil ?_
   refine wpList_store_mid rfl _ _ _ rfl db 0 #[.bool false,.int .i64 op,.int .i64 rd,.int .i64 rs,.int .i64 rt,.int .i64 im,.int .u64 pc,.int .i64 cause,.int .i64 access,.int .u64 addr,.int .i64 size,.int .u64 old,.int .u64 new] rfl rfl (did_there HDB.out rfl) did_info (by simp [Value.oneCell']) ?_
   have HS:=store_all HDB.out [.bool false,.int .i64 op,.int .i64 rd,.int .i64 rs,.int .i64 rt,.int .i64 im,.int .u64 pc,.int .i64 cause,.int .i64 access,.int .u64 addr,.int .i64 size,.int .u64 old,.int .u64 new] rfl
   have hdn:=HND.out
   have CS:=HC.out.trans (S:=Blks L cb) HS.2 fun k hk e=>by have e:k=db:=e;have:=HS0.out;omega
   have HMF:Hid (Mc (W.setCells db 0 [.bool false,.int .i64 op,.int .i64 rd,.int .i64 rs,.int .i64 rt,.int .i64 im,.int .u64 pc,.int .i64 cause,.int .i64 access,.int .u64 addr,.int .i64 size,.int .u64 old,.int .u64 new]) L' { s with u:=u'} cb c'):=Lib.hid (HME.out.chg HS.2 fun k hk e=>by have e:k=db:=e;exact hdn (e▸hk))
   have BE:=HS.2.blk HBE.out (fun e=>by have e:b0=db:=e;have h1:=HS0.out;have h2:=HLZT.out;omega)
   have BN:=HS.2.blk HBN.out (fun e=>by have e:nb=db:=e;have h1:=HS0.out;have h2:=HLZT.out;omega)
   go_wp2_with fail;go_meet
   exact ⟨db,L',rfl,HS.1,HS0.out,HEX.out,hdn,HMF.out,BE,BN,CS⟩
  ·go_simp;refine (HU.out _ HM2.out).mono ?_
   rintro e WN ⟨rfl,hWN⟩;subst hWN;rename World=>W;refine hK _ _ ⟨HC.out,HBN.out.cell' (i:=1) rfl,HBN.out.cell' (i:=3) rfl⟩ ?_
   clear hK K;refine wpFloat_fork rfl (fun K hK=>?_) (fun K hK=>?_)
   ·go_simp;have HS0:Hid (wT.heap.size≤W.heap.size):=Lib.hid HC.out.size
    have HNL:Hid (¬Blks L cb W.heap.size):=Lib.hid fun e=>by have h1:=HLT.out _ e;have h2:=HS0.out;have h3:=HLZT.out;omega
    try have HND:Hid (¬Blks L' cb W.heap.size):=Lib.hid fun e=>absurd (HLL.out _ e) (Nat.lt_irrefl _)
    have C1:=(Chg.refl NoB W).alloc (.cells #[.bool false,.int .i64 0,.int .i64 0,.int .i64 0,.int .i64 0,.int .i64 0,.int .u64 0,.int .i64 0,.int .i64 0,.int .u64 0,.int .i64 0,.int .u64 0,.int .u64 0] 69)
    (try (replace HM2:=Lib.hid (HM2.out.chg0 C1)));(try (replace HME:=Lib.hid (HME.out.chg0 C1)));(try (replace HBN:=Lib.hid (Chg.blk0 C1 HBN.out)));(try (replace HBE:=Lib.hid (Chg.blk0 C1 HBE.out)));(try (replace HDB:=Lib.hid (Chg.blk0 C1 HDB.out)));(try (replace HC:=Lib.hid (Chg.then0 HC.out C1)))
    have HDB:Hid (Blk (W.alloc (.cells #[.bool false,.int .i64 0,.int .i64 0,.int .i64 0,.int .i64 0,.int .i64 0,.int .u64 0,.int .i64 0,.int .i64 0,.int .u64 0,.int .i64 0,.int .u64 0,.int .u64 0] 69)) W.heap.size #[.bool false,.int .i64 0,.int .i64 0,.int .i64 0,.int .i64 0,.int .i64 0,.int .u64 0,.int .i64 0,.int .i64 0,.int .u64 0,.int .i64 0,.int .u64 0,.int .u64 0] 69):=Lib.hid (Blk.new W _ 69)
    refine hK _ _ ⟨HC.out,HBN.out.cell' (i:=1) rfl,HBN.out.cell' (i:=3) rfl⟩ ?_
    clear hK K C1;generalize W.alloc (.cells #[.bool false,.int .i64 0,.int .i64 0,.int .i64 0,.int .i64 0,.int .i64 0,.int .u64 0,.int .i64 0,.int .i64 0,.int .u64 0,.int .i64 0,.int .u64 0,.int .u64 0] 69)=WN at *;generalize W.heap.size=db at *;rename World=>W;try simp only [List.cons_append,List.nil_append]
    refine wpMix_force rfl (fun K hK=>?_)
    go_simp;refine (HTy.out _ HM2.out).mono ?_
    rintro e WN ⟨rfl,L',hE,hMc,k5⟩;try have HND:Hid (¬Blks L' cb db):=Lib.hid (fun e=>by
     rcases e with e | e
     ·exact HNL.out (.inl e)
     ·rcases hE.2.2 _ e with e | e
      ·exact HNL.out (.inr e)
      ·have:=HDB.out.lt;omega)
    try (replace HDB:=Lib.hid (k5.blk HDB.out HNL.out))
    have HLL:Hid (∀k,Blks L' cb k→k<WN.heap.size):=Lib.hid fun k e=>by
     rcases e with e | e
     ·rw [e];exact hMc.co.blk.lt
     ·exact hMc.sp.lt k e
    have HEX:Hid (Ext L L' wT):=Lib.hid ⟨hE.1,hE.2.1,fun k hk=>(hE.2.2 k hk).imp id fun e=>Nat.le_trans HC.out.size e⟩
    have HME:=Lib.hid hMc
    replace HC:=Lib.hid (HC.out.step k5)
    replace HBN:=Lib.hid (k5.blk HBN.out HNb.out)
    replace HBE:=Lib.hid (k5.blk HBE.out HN0.out)
    refine hK _ _ ⟨HC.out,HBN.out.cell' (i:=1) rfl,HBN.out.cell' (i:=3) rfl⟩ ?_
    clear hK K hE hMc k5 HM2;rename World=>W;refine wpMix_nil ?_
    refine wpList_store_mid rfl _ _ _ rfl db 0 #[.bool false,.int .i64 op,.int .i64 rd,.int .i64 rs,.int .i64 rt,.int .i64 im,.int .u64 pc,.int .i64 cause,.int .i64 access,.int .u64 addr,.int .i64 size,.int .u64 old,.int .u64 new] rfl rfl (did_there HDB.out rfl) did_info (by simp [Value.oneCell']) ?_
    have HS:=store_all HDB.out [.bool false,.int .i64 op,.int .i64 rd,.int .i64 rs,.int .i64 rt,.int .i64 im,.int .u64 pc,.int .i64 cause,.int .i64 access,.int .u64 addr,.int .i64 size,.int .u64 old,.int .u64 new] rfl
    have hdn:=HND.out
    have CS:=HC.out.trans (S:=Blks L cb) HS.2 fun k hk e=>by have e:k=db:=e;have:=HS0.out;omega
    have HMF:Hid (Mc (W.setCells db 0 [.bool false,.int .i64 op,.int .i64 rd,.int .i64 rs,.int .i64 rt,.int .i64 im,.int .u64 pc,.int .i64 cause,.int .i64 access,.int .u64 addr,.int .i64 size,.int .u64 old,.int .u64 new]) L' { s with u:=u'} cb c'):=Lib.hid (HME.out.chg HS.2 fun k hk e=>by have e:k=db:=e;exact hdn (e▸hk))
    have BE:=HS.2.blk HBE.out (fun e=>by have e:b0=db:=e;have h1:=HS0.out;have h2:=HLZT.out;omega)
    have BN:=HS.2.blk HBN.out (fun e=>by have e:nb=db:=e;have h1:=HS0.out;have h2:=HLZT.out;omega)
    go_wp2_with fail;go_meet
    exact ⟨db,L',rfl,HS.1,HS0.out,HEX.out,hdn,HMF.out,BE,BN,CS⟩
   ·go_simp;refine (HTy.out _ HM2.out).mono ?_
    rintro e WN ⟨rfl,L',hE,hMc,k5⟩;try have HND:Hid (¬Blks L' cb db):=Lib.hid (fun e=>by
     rcases e with e | e
     ·exact HNL.out (.inl e)
     ·rcases hE.2.2 _ e with e | e
      ·exact HNL.out (.inr e)
      ·have:=HDB.out.lt;omega)
    try (replace HDB:=Lib.hid (k5.blk HDB.out HNL.out))
    have HLL:Hid (∀k,Blks L' cb k→k<WN.heap.size):=Lib.hid fun k e=>by
     rcases e with e | e
     ·rw [e];exact hMc.co.blk.lt
     ·exact hMc.sp.lt k e
    have HEX:Hid (Ext L L' wT):=Lib.hid ⟨hE.1,hE.2.1,fun k hk=>(hE.2.2 k hk).imp id fun e=>Nat.le_trans HC.out.size e⟩
    have HME:=Lib.hid hMc
    replace HC:=Lib.hid (HC.out.step k5)
    replace HBN:=Lib.hid (k5.blk HBN.out HNb.out)
    replace HBE:=Lib.hid (k5.blk HBE.out HN0.out)
    refine hK _ _ ⟨HC.out,HBN.out.cell' (i:=1) rfl,HBN.out.cell' (i:=3) rfl⟩ ?_
    clear hK K hE hMc k5 HM2;rename World=>W;refine wpFloat_nil (fun K hK=>?_)
    go_simp;have HS0:Hid (wT.heap.size≤W.heap.size):=Lib.hid HC.out.size
    have HNL:Hid (¬Blks L cb W.heap.size):=Lib.hid fun e=>by have h1:=HLT.out _ e;have h2:=HS0.out;have h3:=HLZT.out;omega
    try have HND:Hid (¬Blks L' cb W.heap.size):=Lib.hid fun e=>absurd (HLL.out _ e) (Nat.lt_irrefl _)
    have C1:=(Chg.refl NoB W).alloc (.cells #[.bool false,.int .i64 0,.int .i64 0,.int .i64 0,.int .i64 0,.int .i64 0,.int .u64 0,.int .i64 0,.int .i64 0,.int .u64 0,.int .i64 0,.int .u64 0,.int .u64 0] 69)
    (try (replace HM2:=Lib.hid (HM2.out.chg0 C1)));(try (replace HME:=Lib.hid (HME.out.chg0 C1)));(try (replace HBN:=Lib.hid (Chg.blk0 C1 HBN.out)));(try (replace HBE:=Lib.hid (Chg.blk0 C1 HBE.out)));(try (replace HDB:=Lib.hid (Chg.blk0 C1 HDB.out)));(try (replace HC:=Lib.hid (Chg.then0 HC.out C1)))
    have HDB:Hid (Blk (W.alloc (.cells #[.bool false,.int .i64 0,.int .i64 0,.int .i64 0,.int .i64 0,.int .i64 0,.int .u64 0,.int .i64 0,.int .i64 0,.int .u64 0,.int .i64 0,.int .u64 0,.int .u64 0] 69)) W.heap.size #[.bool false,.int .i64 0,.int .i64 0,.int .i64 0,.int .i64 0,.int .i64 0,.int .u64 0,.int .i64 0,.int .i64 0,.int .u64 0,.int .i64 0,.int .u64 0,.int .u64 0] 69):=Lib.hid (Blk.new W _ 69)
    refine hK _ _ ⟨HC.out,HBN.out.cell' (i:=1) rfl,HBN.out.cell' (i:=3) rfl⟩ ?_
    clear hK K C1;generalize W.alloc (.cells #[.bool false,.int .i64 0,.int .i64 0,.int .i64 0,.int .i64 0,.int .i64 0,.int .u64 0,.int .i64 0,.int .i64 0,.int .u64 0,.int .i64 0,.int .u64 0,.int .u64 0] 69)=WN at *;generalize W.heap.size=db at *;rename World=>W;refine wpMix_nil ?_
    refine wpList_store_mid rfl _ _ _ rfl db 0 #[.bool false,.int .i64 op,.int .i64 rd,.int .i64 rs,.int .i64 rt,.int .i64 im,.int .u64 pc,.int .i64 cause,.int .i64 access,.int .u64 addr,.int .i64 size,.int .u64 old,.int .u64 new] rfl rfl (did_there HDB.out rfl) did_info (by simp [Value.oneCell']) ?_
    have HS:=store_all HDB.out [.bool false,.int .i64 op,.int .i64 rd,.int .i64 rs,.int .i64 rt,.int .i64 im,.int .u64 pc,.int .i64 cause,.int .i64 access,.int .u64 addr,.int .i64 size,.int .u64 old,.int .u64 new] rfl
    have hdn:=HND.out
    have CS:=HC.out.trans (S:=Blks L cb) HS.2 fun k hk e=>by have e:k=db:=e;have:=HS0.out;omega
    have HMF:Hid (Mc (W.setCells db 0 [.bool false,.int .i64 op,.int .i64 rd,.int .i64 rs,.int .i64 rt,.int .i64 im,.int .u64 pc,.int .i64 cause,.int .i64 access,.int .u64 addr,.int .i64 size,.int .u64 old,.int .u64 new]) L' { s with u:=u'} cb c'):=Lib.hid (HME.out.chg HS.2 fun k hk e=>by have e:k=db:=e;exact hdn (e▸hk))
    have BE:=HS.2.blk HBE.out (fun e=>by have e:b0=db:=e;have h1:=HS0.out;have h2:=HLZT.out;omega)
    have BN:=HS.2.blk HBN.out (fun e=>by have e:nb=db:=e;have h1:=HS0.out;have h2:=HLZT.out;omega)
    go_wp2_with fail;go_meet
    exact ⟨db,L',rfl,HS.1,HS0.out,HEX.out,hdn,HMF.out,BE,BN,CS⟩
 case rest=>
 obtain ⟨db,L',rfl,hDB,hlo,hE,hnd,hMc,hE3,hN3,hC3⟩:=hcut
 rename World=>wx;clear HM2 HU HTy HC hwT;obtain ⟨-,b1',b2,b3,b4,b5,b6,f,d1,d2,bd⟩:=HR.out
 have hbz:=HZ.out
 have hzT:=HLZT.out
 have hszx:=hC3.size
 have hLn:∀k,Blks L' cb k→Blks L cb k∨wT.heap.size≤k:=fun k hk=>hk.elim (fun e=>.inl (.inl e)) fun e=>(hE.2.2 k e).imp .inr id
 have y3:=(b3.chg0 HCT.out).chg hC3 fun k hk e=>(d1 k hk).2 e
 have y4:=(b4.chg HCT.out fun _ _=>id).chg hC3 fun k hk e=>(d1 k hk).2 e
 have y6:HmW wx SH hb L'.pb me n ({ s with u:=u'} : Spc).shape.shared ps:=by rw [hE.1];exact (b6.chg0 HCT.out).chg hC3 d2
 have x1':Blk wx nb #[.int .i64 me,.pointer (some ⟨L'.pb,0,none⟩),.pointer (some ⟨hb,0,none⟩),.pointer (some ⟨cb,0,none⟩),.slice vp n vc,.int .i64 page] 115:=by rw [hE.1];exact hN3
 have hRx:=RNAt.make b1' x1' y3 y4 hMc y6 (fun k hk=>⟨(d1 k hk).1,fun e=>(hLn k e).elim (d1 k hk).2 fun e=>by have:=bd k (f k (.inl hk));omega⟩) (fun k hk e=>(hLn k e).elim (d2 k hk) fun e=>by have:=bd k (f k (.inr (.inl hk)));omega) (fun k hk=>by have:=bd k (f k (.inl hk));omega) (fun k hk=>by have:=bd k (f k (.inr (.inl hk)));omega)
 have hFx:∀k,(SK k∨SH k∨Blks L' cb k)→F k∨w.heap.size≤k:=fun k hk=>by
  rcases hk with h | h | h
  ·exact .inl (f k (.inl h))
  ·exact .inl (f k (.inr (.inl h)))
  ·exact (hLn k h).imp (fun e=>f k (.inr (.inr e))) (fun e=>by omega)
 have hCx:Chg F w wx:=(HCT.out.mono (S':=F) fun _ _ e=>e.elim).trans hC3 fun k _ e=>f k (.inr (.inr e))
 have hE3b:¬(SK b0∨SH b0∨Blks L' cb b0):=fun e=>by
  rcases e with h | h | h
  ·have:=bd _ (f _ (.inl h));omega
  ·have:=bd _ (f _ (.inr (.inl h)));omega
  ·rcases hLn _ h with h | h
   ·have:=bd _ (f _ (.inr (.inr h)));omega
   ·omega
 replace hszx:w.heap.size≤wx.heap.size:=by omega
 have hdnx:¬(SK db∨SH db∨Blks L' cb db):=fun e=>by
  rcases e with h | h | h
  ·have:=bd _ (f _ (.inl h));omega
  ·have:=bd _ (f _ (.inr (.inl h)));omega
  ·exact hnd h
 have hG:0<size∧(cause=13∨cause=15)∧(access=1∨access=2)∧(addr:Int)=1073741824+4096*(num:Int)∧(num:Int)<s.shape.shared∧s.shape.shared≤65536∧hLook ps num=none∧(num:Int)%n=me∧2≤n∧n≤16∧SetOk { s with u:=u'} num 2∧(setF { s with u:=u'} num 2).2.shape=s.shape:=HG.out
 obtain ⟨g1,g2,g3,g4,g5,g6,g7,g8,g9,g10,g11,g12⟩:=hG
 have HFa:=Lib.hid (nFault_any false op rd rs rt im pc cause access addr size old new wx)
 have hfb:(decide (0<size) && (decide (cause=13) || decide (cause=15)))=true:=by
  rw [decide_eq_true g1]
  rcases g2 with e | e
  ·rw [e];rfl
  ·rw [e];rfl
 rw [hfb] at HFa
 have hd2:∀k,SH k→¬L'.All k:=fun k hk e=>(hLn k (.inr e)).elim (d2 k hk) fun e=>by have:=bd k (f k (.inr (.inl hk)));omega
 have y6':HmW wx SH hb L'.pb me n s.shape.shared ps:=y6
 have HFt:Hid (∀w',Chg NoB wx w'→Calls Tryz.prog 140 #[.pointer (some ⟨hb,0,none⟩),.int .u64 addr,.int .i64 access] w' _):=Lib.hid fun w' k=>hFault_new (y6'.chg0 k) (fun j hj=>by have:=bd j (f j (.inr (.inl hj)));have:=k.size;omega) (hMc.sp.chg0 k) hd2 num g5 rfl addr g4 g7 g8 access g3 (by omega) (by omega) g6 g11
 have HK:=Lib.hid (And.intro b1' (And.intro y3 (And.intro y4 (And.intro hMc (And.intro x1' (And.intro hLn (And.intro hd2 (And.intro f (And.intro d1 (And.intro d2 (And.intro bd (And.intro hFx (And.intro hCx (And.intro hE3b (And.intro hszx (And.intro g12 (And.intro hzT hbz)))))))))))))))))
 have hnn:2≤n:=g9
 have HwT:Hid (wT.heap.size≤wx.heap.size):=Lib.hid hC3.size
 have HDB:=Lib.hid hDB
 have HE3:=Lib.hid hE3
 have HDN:=Lib.hid hdnx
 have HNX:=Lib.hid x1'
 have dd:=hDB.cell
 have ddl:=hDB.lt
 clear hDB hE3 hdnx b1' y3 y4 hMc x1' hLn hd2 f d1 d2 bd hFx hCx hE3b hszx g1 g2 g3 g4 g5 g6 g7 g8 g9 g10 g11 g12 hfb y6 y6' hRx hlo hN3 hC3 hbz hzT hnd b2 b3 b4 b5 b6 hE;go_wp2_with fail;with_reducible refine HFa.out.mono ?_
 rintro e wf ⟨rfl,hCf⟩;go_upto_region 9 with fail;have hDBf:=hCf.blk0 HDB.out
 have hNXf:=hCf.blk0 HNX.out
 have hE3f:=hCf.blk0 HE3.out
 have HCf:=Lib.hid hCf
 have hDo:∀k,(SH k∨L'.All k)→(SK k∨SH k∨Blks L' cb k):=fun k hk=>hk.elim (fun e=>.inr (.inl e)) fun e=>.inr (.inr (.inr e))
 have hnS:¬(SH nb∨L'.All nb):=by
  obtain ⟨b1',-,-,-,-,hLn,-,f,d1,-,bd,-,-,-,-,-,hzT,hbz⟩:=HK.out
  rintro (e | e)
  ·exact (d1 nb b1').1 e
  ·rcases hLn nb (.inr e) with h | h
   ·exact (d1 nb b1').2 h
   ·have:=bd nb (f nb (.inl b1'));omega
 have g:∀w',Chg (fun k=>SH k∨L'.All k) wf w'→∀i,w'.cell? ⟨nb,i,none⟩=_:=fun w' k i=>(k.blk hNXf hnS).cell i
 have gl:∀w',Chg (fun k=>SH k∨L'.All k) wf w'→nb<w'.heap.size:=fun w' k=>(k.blk hNXf hnS).lt
 have gd:∀w',Chg (fun k=>SH k∨L'.All k) wf w'→∀i,w'.cell? ⟨db,i,none⟩=_:=fun w' k i=>(k.blk hDBf fun e=>HDN.out (hDo _ e)).cell i
 have gdl:∀w',Chg (fun k=>SH k∨L'.All k) wf w'→db<w'.heap.size:=fun w' k=>(k.blk hDBf fun e=>HDN.out (hDo _ e)).lt
 have HDo:=Lib.hid hDo
 have HNS:=Lib.hid hnS
 have HB3:=Lib.hid (And.intro hDBf (And.intro hNXf hE3f))
 have HFt2:=Lib.hid (HFt.out wf.drew hCf.drew)
 have cc:=Chg.refl (fun k=>SH k∨L'.All k) wf
 clear hDBf hNXf hE3f hDo hnS hCf dd ddl HFt;refine wp_region_mix 13 [(true,0),(true,1),(true,2),(true,3),(true,4),(true,5),(true,6),(true,7),(false,8),(true,9),(true,10),(true,11),(false,12)] (fun w'=>Chg (fun k=>SH k∨L'.All k) wf w') (by kernel_rfl) (by kernel_rfl) (fun _ _ _ _ _ h=>h) (cc.drew) ?_
 simp only [pickMix_nil,pickMix_cons,Option.getD_some,List.getElem?_toArray,List.getElem?_cons_zero,List.getElem?_cons_succ,List.cons_append,List.nil_append,List.drop_succ_cons,List.drop_zero]
 iterate 8
  refine wpMix_take rfl ?_;apply Exists.intro;refine ⟨fun wS hS=>?_,?_⟩
  ·try dsimp only at hS
   have cS:=hS
   go_simp;try rfl
  simp only [Act.put,List.setIfInBounds_toArray,List.set_cons_zero,List.set_cons_succ]
 refine wpMix_force rfl (fun K hK=>?_)
 go_simp;with_reducible refine HFt2.out.mono ?_
 rintro e w5 ⟨rfl,L5,S5,ps5,pb5,hE5,hH5,hl5,hS5,hSa,hSb,hSc,hC5⟩;have c5:Chg (fun k=>SH k∨L'.All k) wf w5:=cc.drew.trans hC5 fun k _ e=>e
 have HK5:=Lib.hid (And.intro hE5 (And.intro hH5 (And.intro hl5 (And.intro hS5 (And.intro hSa (And.intro hSb hSc))))))
 refine hK _ _ c5 ?_
 clear hK K hE5 hH5 hl5 hS5 hSa hSb hSc hC5;iterate 3
  refine wpMix_take rfl ?_;apply Exists.intro;refine ⟨fun wS hS=>?_,?_⟩
  ·try dsimp only at hS
   have cS:=hS
   go_simp;try rfl
  simp only [Act.put,List.setIfInBounds_toArray,List.set_cons_zero,List.set_cons_succ]
 refine wpMix_force rfl (fun K hK=>?_)
 go_simp;refine hK _ _ c5 ?_
 clear hK K;refine wpMix_nil ?_
 have hN5:=c5.blk HB3.out.2.1 HNS.out
 have hD5:=c5.blk HB3.out.1 fun e=>HDN.out (HDo.out _ e)
 have hE5:=c5.blk HB3.out.2.2 fun e=>HK.out.2.2.2.2.2.2.2.2.2.2.2.2.2.1 (HDo.out _ e)
 have HC5:=Lib.hid c5
 have HN5:=Lib.hid hN5
 have HD5:=Lib.hid hD5
 have HE5:=Lib.hid hE5
 have n5:=hN5.cell' (i:=5) (v:=.int .i64 page) rfl
 have n5z:=hN5.frozen 5
 have n5l:=hN5.lt
 have dd:=hD5.cell
 have ddl:=hD5.lt
 have c6:Chg (fun k=>k=nb) w5 (w5.setCell ⟨nb,5,none⟩ (.int .i64 num)):=(Chg.refl (fun k=>k=nb) w5).setCell (a:=⟨nb,5,none⟩) (.inl rfl) _
 have HC6:=Lib.hid c6
 have tn:decide ((0:Int)≤(num:Int))=true:=decide_eq_true (by omega)
 have HPo:=Lib.hid (nPost_none nb (w5.setCell ⟨nb,5,none⟩ (.int .i64 num)))
 clear g gl gd gdl cc c5 c6 hN5 hD5 hE5 HFt2;go_wp2_with fail;with_reducible refine HPo.out.mono ?_
 rintro e w6 ⟨rfl,hw⟩;have hw6:w5.setCell ⟨nb,5,none⟩ (.int .i64 num)=w6:=hw.symm
 rw [hw6] at HC6
 have hNset:Blk w6 nb #[.int .i64 me,.pointer (some ⟨L'.pb,0,none⟩),.pointer (some ⟨hb,0,none⟩),.pointer (some ⟨cb,0,none⟩),.slice vp n vc,.int .i64 num] 115:=hw6▸HN5.out.set 5 (.int .i64 num)
 subst hw6;obtain ⟨b1',y3,y4,hMc,-,hLn,hd2,f,d1,d2,bd,hFx,hCx,hE3b,hszx,g12,hzT,hbz⟩:=HK.out
 obtain ⟨eE,eH,el,eS,eSa,eSb,eSc⟩:=HK5.out
 have zf:wf.drew.heap.size=wf.heap.size:=rfl
 have zx:wx.heap.size≤wf.heap.size:=HCf.out.size
 have z5:wf.heap.size≤w5.heap.size:=HC5.out.size
 have z0:b0<wx.heap.size:=HE3.out.lt
 have hnbl:nb<b0:=bd nb (f nb (.inl b1'))
 have hcbl:cb<wx.heap.size:=hMc.co.blk.lt
 have hLn5:∀k,Blks L5 cb k→Blks L cb k∨wT.heap.size≤k∧b0<k:=fun k hk=>by
  rcases hk with e | e
  ·exact .inl (.inl e)
  ·rcases eE.2.2 k e with e | e
   ·exact (hLn k (.inr e)).imp id fun h=>⟨h,by omega⟩
   ·have h1:wT.heap.size≤wx.heap.size:=HwT.out
    exact .inr ⟨by omega,by omega⟩
 have hSK:∀k,SK k→¬(SH k∨L'.All k):=fun k hk e=>e.elim (d1 k hk).1 fun e=>(hLn k (.inr e)).elim (d1 k hk).2 fun h=>by have:=bd k (f k (.inl hk));omega
 have q3:=(y3.chg0 HCf.out).chg HC5.out hSK
 have q4:=(y4.chg HCf.out fun _ _=>id).chg HC5.out hSK
 have hcbn:¬(SH cb∨L'.All cb):=fun e=>e.elim (fun e=>d2 cb e (.inl rfl)) hMc.ap
 have qc:=(hMc.co.chg HCf.out id).chg HC5.out hcbn
 obtain ⟨mb5,-,eHB,-,-⟩:=eH.ex
 have eSB:=eS.blk
 rw [eE.1] at eSB
 obtain ⟨r3,r4⟩:=lks_set hnn HN5.out q3 q4 eSB eHB qc.blk HC6.out
 have nL5:¬Blks L5 cb nb:=fun e=>(hLn5 nb e).elim (d1 nb b1').2 fun h=>by omega
 have nS5:¬S5 nb:=fun e=>(eSa nb e).elim (d1 nb b1').1 fun h=>by omega
 have r5:Mc (w5.setCell ⟨nb,5,none⟩ (.int .i64 num)) L5 (setF { s with u:=u'} num 2).2 cb c':=⟨eS.chg HC6.out fun k hk (e:k=nb)=>nL5 (.inr (e▸hk)),qc.chg HC6.out fun e=>nL5 (.inl e.symm),fun e=>(eE.2.2 cb e).elim hMc.ap fun e=>by omega⟩
 have r6:HmW (w5.setCell ⟨nb,5,none⟩ (.int .i64 num)) S5 hb L5.pb me n (setF { s with u:=u'} num 2).2.shape.shared ps5:=by rw [eE.1,g12];exact eH.chg HC6.out fun k hk (e:k=nb)=>nS5 (e▸hk)
 have r2:Blk (w5.setCell ⟨nb,5,none⟩ (.int .i64 num)) nb #[.int .i64 me,.pointer (some ⟨L5.pb,0,none⟩),.pointer (some ⟨hb,0,none⟩),.pointer (some ⟨cb,0,none⟩),.slice vp n vc,.int .i64 num] 115:=by rw [eE.1];exact hNset
 have z6:(w5.setCell ⟨nb,5,none⟩ (.int .i64 num)).heap.size=w5.heap.size:=World.size_setCell ..
 have hRN:=RNAt.make b1' r2 r3 r4 r5 r6 (fun k hk=>⟨fun e=>(eSa k e).elim (d1 k hk).1 fun h=>by have:=bd k (f k (.inl hk));omega,fun e=>(hLn5 k e).elim (d1 k hk).2 fun h=>by have:=bd k (f k (.inl hk));omega⟩)
  (fun k hk e=>by
   rcases e with e | e
   ·rcases eSa k hk with h | h
    ·exact d2 k h (.inl e)
    ·omega
   ·exact eSc k hk e) (fun k hk=>by have:=bd k (f k (.inl hk));omega) (fun k hk=>by rw [z6];exact eSb k hk)
 have hFF:∀k,(SK k∨S5 k∨Blks L5 cb k)→F k∨b0<k:=fun k hk=>by
  rcases hk with h | h | h
  ·exact .inl (f k (.inl h))
  ·exact (eSa k h).imp (fun h=>f k (.inr (.inl h))) fun h=>by omega
  ·exact (hLn5 k h).imp (fun e=>f k (.inr (.inr e))) fun h=>h.2
 have x3:=HC6.out.blk HE5.out (fun (e:b0=nb)=>by omega)
 have x4:=HC6.out.blk HD5.out (fun (e:db=nb)=>HDN.out (e▸.inl b1'))
 have HSA:=store_all x3 [.int .i64 3,.bool false,.int .i64 op,.int .i64 rd,.int .i64 rs,.int .i64 rt,.int .i64 im,.int .u64 pc,.int .i64 cause,.int .i64 access,.int .u64 addr,.int .i64 size,.int .u64 old,.int .u64 new,.int .i64 num] rfl
 have hCt:Chg F w (w5.setCell ⟨nb,5,none⟩ (.int .i64 num)):=((hCx.trans HCf.out fun k _ e=>e.elim).trans HC5.out fun k hk e=>by
  rcases e with e | e
  ·exact f k (.inr (.inl e))
  ·rcases hLn k (.inr e) with h | h
   ·exact f k (.inr (.inr h))
   ·omega).trans HC6.out fun k _ (e:k=nb)=>e▸f nb (.inl b1')
 have HF:Hid (∃(F'':Nat→Prop) (ps2:List (Int×Nat×PgS)) (pb:Nat),RNAt ((w5.setCell ⟨nb,5,none⟩ (.int .i64 num)).setCells b0 0 [.int .i64 3,.bool false,.int .i64 op,.int .i64 rd,.int .i64 rs,.int .i64 rt,.int .i64 im,.int .u64 pc,.int .i64 cause,.int .i64 access,.int .u64 addr,.int .i64 size,.int .u64 old,.int .u64 new,.int .i64 num]) F'' nb me n num (setF { s with u:=u'} num 2).2 c' ps2∧hLook ps2 num=some (pb,holdF (pgNewF me me) 2)∧(∀k,F'' k→F k∨w.heap.size≤k)∧Chg F w ((w5.setCell ⟨nb,5,none⟩ (.int .i64 num)).setCells b0 0 [.int .i64 3,.bool false,.int .i64 op,.int .i64 rd,.int .i64 rs,.int .i64 rt,.int .i64 im,.int .u64 pc,.int .i64 cause,.int .i64 access,.int .u64 addr,.int .i64 size,.int .u64 old,.int .u64 new,.int .i64 num])):=Lib.hid ⟨_,ps5,pb5,hRN.chg HSA.2 (fun k hk (e:k=b0)=>(hFF k hk).elim (fun h=>by have:=bd k h;omega) fun h=>by omega),el,fun k hk=>(hFF k hk).imp id fun h=>by omega,hCt.trans HSA.2 fun k hk (e:k=b0)=>by omega⟩
 have dd4:=x4.cell
 have dd4l:=x4.lt
 have k:=x3.cell
 have kz:=x3.frozen
 have kl:=x3.lt
 clear b1' y3 y4 hMc hLn hd2 f d1 d2 bd hFx hCx hE3b hszx g12 hzT hbz eE eH el eS eSa eSb eSc zf zx z5 z0 hnbl hcbl hLn5 hSK q3 q4 hcbn qc eHB eSB r3 r4 nL5 nS5 r5 r6 r2 z6 hRN hFF x3 x4 hCt hNset n5 n5z n5l dd ddl hw;generalize w5.setCell ⟨nb,5,none⟩ (.int .i64 num)=w6 at *;obtain ⟨w7,hw7⟩:∃x,w6.setCells b0 0 [.int .i64 3,.bool false,.int .i64 op,.int .i64 rd,.int .i64 rs,.int .i64 rt,.int .i64 im,.int .u64 pc,.int .i64 cause,.int .i64 access,.int .u64 addr,.int .i64 size,.int .u64 old,.int .u64 new,.int .i64 num]=x:=⟨_,rfl⟩
 rw [hw7] at HF HSA
 replace hw7:(((((((((((((((w6.setCell ⟨b0,0,none⟩ (.int .i64 3)).setCell ⟨b0,1,none⟩ (.bool false)).setCell ⟨b0,2,none⟩ (.int .i64 op)).setCell ⟨b0,3,none⟩ (.int .i64 rd)).setCell ⟨b0,4,none⟩ (.int .i64 rs)).setCell ⟨b0,5,none⟩ (.int .i64 rt)).setCell ⟨b0,6,none⟩ (.int .i64 im)).setCell ⟨b0,7,none⟩ (.int .u64 pc)).setCell ⟨b0,8,none⟩ (.int .i64 cause)).setCell ⟨b0,9,none⟩ (.int .i64 access)).setCell ⟨b0,10,none⟩ (.int .u64 addr)).setCell ⟨b0,11,none⟩ (.int .i64 size)).setCell ⟨b0,12,none⟩ (.int .u64 old)).setCell ⟨b0,13,none⟩ (.int .u64 new)).setCell ⟨b0,14,none⟩ (.int .i64 num))=w7:=hw7
 have q:=HSA.1.cell
 have ql:=HSA.1.lt
 clear HSA;go_wp2_with fail;exact bodyPost_ret (v:=.agg #[.int .i64 3,.bool false,.int .i64 op,.int .i64 rd,.int .i64 rs,.int .i64 rt,.int .i64 im,.int .u64 pc,.int .i64 cause,.int .i64 access,.int .u64 addr,.int .i64 size,.int .u64 old,.int .u64 new,.int .i64 num]) (by simp [results,Tryz.results99,go_sem,q]) rfl ⟨rfl,HF.out⟩
end Go.Proofs.YtjhnnjgnkkjmkaaGreatDoor
