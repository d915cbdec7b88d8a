/- Clusters that run: an empty bag; deliveries of nothing; a tick. No condition. Clusters that run: acts. No condition. Clusters that run: an act, whole. No condition. Clusters that run: an act, whole. No condition. -/
import Derived.Test.YtjhnnjgnkkjmkaaGreatDoorIh
set_option maxHeartbeats 4000000
set_option maxRecDepth 100000
set_option linter.unusedVariables false
set_option linter.unusedSimpArgs false
namespace Go.Proofs.YtjhnnjgnkkjmkaaGreatDoor
open Go.RowKit Go.RR
theorem there_none {w:World} {b:Nat} (h:Blk w b #[.slice none 0 0,.int .i64 0] 101) (i:Int):Calls Tryz.prog 147 #[.pointer (some ⟨b,0,none⟩),.int .i64 i] w (RetW (.bool false) fun w'=>w'=w):=by
 have f:=h.cell
 have fl:=h.lt
 by_cases hi:0≤i
 ·have t1:decide (0≤i)=true:=decide_eq_true hi
  have t2:decide (i<0)=false:=decide_eq_false (by omega)
  clear h;go_enter Tryz.func147,Tryz.ntmps147;go_wp2_with fail;go_ret;exact ⟨rfl,rfl⟩
 ·have t1:decide (0≤i)=false:=decide_eq_false hi
  clear h;go_enter Tryz.func147,Tryz.ntmps147;go_wp2_with fail;go_ret;exact ⟨rfl,rfl⟩
theorem bDel_none {w:World} {b:Nat} (h:Blk w b #[.slice none 0 0,.int .i64 0] 101) (i:Int):Calls Tryz.prog 145 #[.pointer (some ⟨b,0,none⟩),.int .i64 i] w (RetW (.tuple #[.agg #[.int .i64 0,.int .i64 0,.slice none 0 0,.bool false],.bool false]) fun w'=>Chg NoB w w'):=by
 have c0:=(Chg.refl NoB w).alloc (.cells #[.int .i64 0,.int .i64 0,.slice none 0 0,.bool false] 126)
 have HC:=Lib.hid c0
 have HT:=Lib.hid (there_none (c0.blk0 h) i)
 have hb:=Blk.new w #[.int .i64 0,.int .i64 0,.slice none 0 0,.bool false] 126
 have k:=hb.cell
 have kz:=hb.frozen
 have kl:=hb.lt
 clear h c0 hb;go_enter Tryz.func145,Tryz.ntmps145;go_wp2_with fail;with_reducible refine HT.out.mono ?_
 rintro e w2 ⟨rfl,rfl⟩;go_wp2_with fail;exact bodyPost_ret (v:=.tuple #[.agg #[.int .i64 0,.int .i64 0,.slice none 0 0,.bool false],.bool false]) (by simp [results,Tryz.results145,go_sem,k]) rfl ⟨rfl,HC.out⟩
theorem cBag_q {w:World} {F0:Nat→Prop} {cb n sh:Nat} {nb:Nat→Nat} {x:Cst} (h:COwn w F0 cb n sh nb x):Calls Tryz.prog 74 #[.pointer (some ⟨cb,0,none⟩)] w (fun e w'=>∃bag,e = .returned (.pointer (some ⟨bag,0,none⟩))∧Blk w bag #[.slice none 0 0,.int .i64 0] 101∧w'=w):=by
 obtain ⟨v,bag,hB,-,-,hb⟩:=h.ex
 have f:=hB.cell
 have fl:=hB.lt
 have HB:=Lib.hid hb
 clear h hB hb;go_enter Tryz.func74,Tryz.ntmps74;go_wp2_with fail;go_ret;exact ⟨_,rfl,HB.out,rfl⟩
theorem bLen_none {w:World} {b:Nat} (h:Blk w b #[.slice none 0 0,.int .i64 0] 101):Calls Tryz.prog 75 #[.pointer (some ⟨b,0,none⟩)] w (RetW (.int .i64 0) fun w'=>w'=w):=by
 have f:=h.cell
 have fl:=h.lt
 clear h;go_enter Tryz.func75,Tryz.ntmps75;go_wp2_with fail;go_ret;exact ⟨rfl,rfl⟩
theorem deliver_none {w:World} {F0:Nat→Prop} {cb n sh:Nat} {nb:Nat→Nat} {x:Cst} (h:COwn w F0 cb n sh nb x) (i:Int):Calls Tryz.prog 101 #[.pointer (some ⟨cb,0,none⟩),.int .i64 i] w (RetW (.bool false) fun w'=>Chg NoB w w'):=by
 obtain ⟨v,bag,hB,-,-,hb⟩:=h.ex
 have f:=hB.cell
 have fl:=hB.lt
 have HD:=Lib.hid (bDel_none hb i)
 clear h hB hb;go_enter Tryz.func101,Tryz.ntmps101;go_wp2_with fail;with_reducible refine HD.out.mono ?_
 rintro e w2 ⟨rfl,hC⟩;have HC:=Lib.hid (hC.alloc (.cells #[.int .i64 0,.int .i64 0,.slice none 0 0,.bool false] 126))
 clear hC;go_wp2_with fail;go_ret;exact ⟨rfl,HC.out⟩
theorem pass_quiet {w:World} {F0:Nat→Prop} {Fn:Nat→Nat→Prop} {cb n sh:Nat} {nb:Nat→Nat} {x:Cst} {y:Nat→Nst} (h:QC w F0 Fn cb n sh nb x y) (hn:n≤16) (ht:x.tick<1099511627776):Calls Tryz.prog 106 #[.pointer (some ⟨cb,0,none⟩)] w (RetW (.bool true) fun w'=>QC w' F0 Fn cb n sh nb { x with tick:=x.tick+1} y∧Chg F0 w w'):=by
 obtain ⟨tick,steps,bad,fv,nf,fs,ov,no,os⟩:=x
 obtain ⟨v,bag,hB,hO,hbg,hb⟩:=h.own.ex
 obtain ⟨p,c,rfl⟩:=hO.form
 have ht:tick<1099511627776:=ht
 have t1:decide ((1099511627776:Int)≤tick)=false:=decide_eq_false (by omega)
 have t2:decide (1099511627776≤tick)=false:=decide_eq_false (by omega)
 have e1:IntKind.i64.wrap ((tick:Int)+1)=(tick:Int)+1:=IntWalk.i64_in _ (by omega)
 have f:=hB.cell
 have fz:=hB.frozen 3
 have fl:=hB.lt
 have CN:Chg (fun k=>k=cb) w (w.setCell ⟨cb,3,none⟩ (.int .i64 ((tick+1:Nat):Int))):=(Chg.refl (fun k=>k=cb) w).setCell (a:=⟨cb,3,none⟩) (.inl rfl) _
 have hT:∀(E:TypeId) (k:Nat) (cur:Array Value),E≠78→Blk w k cur E→¬k=cb:=fun E k cur n2 hk e=>by
  rw [e] at hk;exact n2 (hk.inj hB).2
 have HQ:Hid (QC (w.setCell ⟨cb,3,none⟩ (.int .i64 ((tick+1:Nat):Int))) F0 Fn cb n sh nb ⟨tick+1,steps,bad,fv,nf,fs,ov,no,os⟩ y):=Lib.hid
  (h.grow ⟨h.own.f0,fun k hk=>Nat.lt_of_lt_of_le (h.own.bd k hk) CN.size,⟨_,bag,hB.set 3 _,ownT hO CN fun k cur hk=>hT _ k cur (by decide) hk,hbg,CN.blk hb fun e=>hT _ bag _ (by decide) hb e⟩,ownT h.own.fo CN fun k cur hk=>hT _ k cur (by decide) hk,ownT h.own.oo CN fun k cur hk=>hT _ k cur (by decide) hk⟩ (fun _ hk=>.inl hk) (CN.mono fun k _ e=>e▸h.own.f0))
 have HC:Hid (Chg F0 w (w.setCell ⟨cb,3,none⟩ (.int .i64 ((tick+1:Nat):Int)))):=Lib.hid (CN.mono fun k _ e=>e▸h.own.f0)
 have fn:(w.setCell ⟨cb,3,none⟩ (.int .i64 ((tick+1:Nat):Int))).cell? ⟨cb,0,none⟩=some (.slice p n c):=(hB.set 3 _).cell' (i:=0) rfl
 have fnl:cb<(w.setCell ⟨cb,3,none⟩ (.int .i64 ((tick+1:Nat):Int))).heap.size:=(hB.set 3 (.int .i64 ((tick+1:Nat):Int))).lt
 obtain ⟨w1,hw1⟩:∃x,w.setCell ⟨cb,3,none⟩ (.int .i64 ((tick+1:Nat):Int))=x:=⟨_,rfl⟩
 rw [hw1] at HQ HC fn fnl
 replace hw1:w.setCell ⟨cb,3,none⟩ (.int .i64 ((tick:Int)+1))=w1:=hw1
 clear h hB hO hb CN hT;go_enter Tryz.func106,Tryz.ntmps106;go_wp2_with fail;go_loopg [21] n (fun k iv wr=>∃i:Nat,iv = .int .i64 i∧i≤n∧k=n - i∧Chg NoB w1 wr)
 case atStart=>exact ⟨0,rfl,by omega,by omega,Chg.refl _ _⟩
 case round=>
  obtain ⟨i,rfl,hin,hk,hC⟩:=hrel
  rename World=>wr;have HK:=Lib.hid hk
  have HC2:=Lib.hid hC
  clear hk;by_cases hi:i<n
  ·have t3:decide ((i:Int)<n)=true:=decide_eq_true (by omega)
   have t4:decide (i<n)=true:=decide_eq_true hi
   have HM:=Lib.hid (mail_quiet (HQ.out.chg0 hC) hn (by show tick+1≤_;omega) i hi)
   clear hC;go_wp2_with fail;with_reducible refine HM.out.mono ?_
   rintro e w2 ⟨rfl,hC3⟩;have HC3:=Lib.hid (HC2.out.trans hC3 fun _ _ e=>e.elim)
   clear hC3;go_wp2_with fail;go_roundg (n - (i+1))
   case rel=>exact ⟨i+1,by go_num,by omega,rfl,HC3.out⟩
   case measure=>rw [HK.out];omega
  ·have t3:decide ((i:Int)<n)=false:=decide_eq_false (by omega)
   have t4:decide (i<n)=false:=decide_eq_false hi
   clear hC;go_wp2_with fail;go_ret;exact ⟨rfl,HQ.out.chg0 HC2.out,HC.out.trans HC2.out fun _ _ e=>e.elim⟩
theorem QC.steps {w:World} {F0:Nat→Prop} {Fn:Nat→Nat→Prop} {cb n sh:Nat} {nb:Nat→Nat} {x:Cst} {y:Nat→Nst} (h:QC w F0 Fn cb n sh nb x y) (m:Nat):QC (w.setCell ⟨cb,4,none⟩ (.int .i64 m)) F0 Fn cb n sh nb { x with steps:=m} y∧Chg (fun k=>k=cb) w (w.setCell ⟨cb,4,none⟩ (.int .i64 m)):=by
 obtain ⟨v,bag,hB,hO,hbg,hb⟩:=h.own.ex
 have CN:Chg (fun k=>k=cb) w (w.setCell ⟨cb,4,none⟩ (.int .i64 m)):=(Chg.refl (fun k=>k=cb) w).setCell (a:=⟨cb,4,none⟩) (.inl rfl) _
 have hT:∀(E:TypeId) (k:Nat) (cur:Array Value),E≠78→Blk w k cur E→¬k=cb:=fun E k cur n2 hk e=>by
  rw [e] at hk;exact n2 (hk.inj hB).2
 exact ⟨h.grow ⟨h.own.f0,fun k hk=>Nat.lt_of_lt_of_le (h.own.bd k hk) CN.size,⟨_,bag,hB.set 4 _,ownT hO CN fun k cur hk=>hT _ k cur (by decide) hk,hbg,CN.blk hb fun e=>hT _ bag _ (by decide) hb e⟩,ownT h.own.fo CN fun k cur hk=>hT _ k cur (by decide) hk,ownT h.own.oo CN fun k cur hk=>hT _ k cur (by decide) hk⟩ (fun _ hk=>.inl hk) (CN.mono fun k _ e=>e▸h.own.f0),CN⟩
theorem QC.bad {w:World} {F0:Nat→Prop} {Fn:Nat→Nat→Prop} {cb n sh:Nat} {nb:Nat→Nat} {x:Cst} {y:Nat→Nst} (h:QC w F0 Fn cb n sh nb x y) (m:Nat):QC (w.setCell ⟨cb,5,none⟩ (.int .i64 m)) F0 Fn cb n sh nb { x with bad:=m} y∧Chg (fun k=>k=cb) w (w.setCell ⟨cb,5,none⟩ (.int .i64 m)):=by
 obtain ⟨v,bag,hB,hO,hbg,hb⟩:=h.own.ex
 have CN:Chg (fun k=>k=cb) w (w.setCell ⟨cb,5,none⟩ (.int .i64 m)):=(Chg.refl (fun k=>k=cb) w).setCell (a:=⟨cb,5,none⟩) (.inl rfl) _
 have hT:∀(E:TypeId) (k:Nat) (cur:Array Value),E≠78→Blk w k cur E→¬k=cb:=fun E k cur n2 hk e=>by
  rw [e] at hk;exact n2 (hk.inj hB).2
 exact ⟨h.grow ⟨h.own.f0,fun k hk=>Nat.lt_of_lt_of_le (h.own.bd k hk) CN.size,⟨_,bag,hB.set 5 _,ownT hO CN fun k cur hk=>hT _ k cur (by decide) hk,hbg,CN.blk hb fun e=>hT _ bag _ (by decide) hb e⟩,ownT h.own.fo CN fun k cur hk=>hT _ k cur (by decide) hk,ownT h.own.oo CN fun k cur hk=>hT _ k cur (by decide) hk⟩ (fun _ hk=>.inl hk) (CN.mono fun k _ e=>e▸h.own.f0),CN⟩
theorem act_deliver {w:World} {F0:Nat→Prop} {cb n sh:Nat} {nb:Nat→Nat} {x:Cst} (h:COwn w F0 cb n sh nb x) (a b:Int):Calls Tryz.prog 79 #[.pointer (some ⟨cb,0,none⟩),.agg #[.int .i64 1,.int .i64 a,.int .i64 b]] w (RetW (.bool false) fun w'=>Chg NoB w w'):=by
 have c0:=(Chg.refl NoB w).alloc (.cells #[.int .i64 1,.int .i64 a,.int .i64 b] 57)
 have HC:=Lib.hid c0
 have HD:=Lib.hid (deliver_none (h.chg0 c0) a)
 clear h c0;go_enter Tryz.func79,Tryz.ntmps79;go_wp2_with fail;with_reducible refine HD.out.mono ?_
 rintro e w2 ⟨rfl,hC⟩;go_wp2_with fail;go_ret;exact ⟨rfl,HC.out.trans hC fun _ _ e=>e.elim⟩
theorem act_pass {w:World} {F0:Nat→Prop} {Fn:Nat→Nat→Prop} {cb n sh:Nat} {nb:Nat→Nat} {x:Cst} {y:Nat→Nst} (h:QC w F0 Fn cb n sh nb x y) (hn:n≤16) (ht:x.tick<1099511627776) (a b:Int):Calls Tryz.prog 79 #[.pointer (some ⟨cb,0,none⟩),.agg #[.int .i64 6,.int .i64 a,.int .i64 b]] w (RetW (.bool true) fun w'=>QC w' F0 Fn cb n sh nb { x with tick:=x.tick+1} y∧Chg F0 w w'):=by
 have c0:=(Chg.refl NoB w).alloc (.cells #[.int .i64 6,.int .i64 a,.int .i64 b] 57)
 have HC:=Lib.hid c0
 have HD:=Lib.hid (pass_quiet (h.chg0 c0) hn ht)
 clear h c0;go_enter Tryz.func79,Tryz.ntmps79;go_wp2_with fail;with_reducible refine HD.out.mono ?_
 rintro e w2 ⟨rfl,hQ,hC⟩;go_wp2_with fail;go_ret;exact ⟨rfl,hQ,(HC.out.mono fun _ _ e=>e.elim).trans hC fun _ _ e=>e⟩
theorem Do_runtrue {w:World} {F0:Nat→Prop} {Fn:Nat→Nat→Prop} {cb n sh:Nat} {nb:Nat→Nat} {y':Nat→Nst} (P:Cst→Prop) (hP:∀x,P x→x.steps<1099511627776∧x.bad<1099511627776) (hb:∀k,InC F0 Fn n k→k<w.heap.size) (a b what:Int) (done:Bool) (op rd rs rt im:Int) (pc:Int) (cause access:Int) (addr:Int) (size:Int) (old new ev:Int)
  (hR:∀w',Chg NoB w w'→Calls Tryz.prog 78 #[.pointer (some ⟨cb,0,none⟩),.int .i64 a,.int .i64 b] w' (RetW (.tuple #[.agg #[.int .i64 what,.bool done,.int .i64 op,.int .i64 rd,.int .i64 rs,.int .i64 rt,.int .i64 im,.int .u64 pc,.int .i64 cause,.int .i64 access,.int .u64 addr,.int .i64 size,.int .u64 old,.int .u64 new,.int .i64 ev],.bool true]) fun w''=>∃x1 F0' Fn',QC w'' F0' Fn' cb n sh nb x1 y'∧P x1∧(∀k,InC F0' Fn' n k→InC F0 Fn n k∨w'.heap.size≤k)∧Chg (InC F0 Fn n) w' w'')) :
  Calls Tryz.prog 49 #[.pointer (some ⟨cb,0,none⟩),.agg #[.int .i64 0,.int .i64 a,.int .i64 b]] w (RetW (.tuple #[.agg #[.int .i64 what,.bool done,.int .i64 op,.int .i64 rd,.int .i64 rs,.int .i64 rt,.int .i64 im,.int .u64 pc,.int .i64 cause,.int .i64 access,.int .u64 addr,.int .i64 size,.int .u64 old,.int .u64 new,.int .i64 ev],.bool true]) fun w''=>∃x1 F0' Fn',QC w'' F0' Fn' cb n sh nb { x1 with steps:=x1.steps+1} y'∧P x1∧(∀k,InC F0' Fn' n k→InC F0 Fn n k∨w.heap.size≤k)∧Chg (InC F0 Fn n) w w''):=by
 have HP:=Lib.hid hP
 have Hb:=Lib.hid hb
 have HR:=Lib.hid hR
 clear hP hb hR;have c0:=((Chg.refl NoB w).alloc (.cells #[.int .i64 0,.int .i64 a,.int .i64 b] 57)).alloc (.cells #[.int .i64 0,.bool false,.int .i64 0,.int .i64 0,.int .i64 0,.int .i64 0,.int .i64 0,.int .u64 0,.int .i64 0,.int .i64 0,.int .u64 0,.int .i64 0,.int .u64 0,.int .u64 0,.int .i64 0] 86)
 have HC0:=Lib.hid c0
 have HA0:=Lib.hid ((Blk.new w #[.int .i64 0,.int .i64 a,.int .i64 b] 57).alloc (.cells #[.int .i64 0,.bool false,.int .i64 0,.int .i64 0,.int .i64 0,.int .i64 0,.int .i64 0,.int .u64 0,.int .i64 0,.int .i64 0,.int .u64 0,.int .i64 0,.int .u64 0,.int .u64 0,.int .i64 0] 86))
 have hB0:=Blk.new (w.alloc (.cells #[.int .i64 0,.int .i64 a,.int .i64 b] 57)) #[.int .i64 0,.bool false,.int .i64 0,.int .i64 0,.int .i64 0,.int .i64 0,.int .i64 0,.int .u64 0,.int .i64 0,.int .i64 0,.int .u64 0,.int .i64 0,.int .u64 0,.int .u64 0,.int .i64 0] 86
 rw [World.size_alloc] at hB0
 have HB0:=Lib.hid hB0
 clear hB0;clear c0;go_enter Tryz.func49,Tryz.ntmps49;have HI:=Lib.hid (idle_any ((w.alloc (.cells #[.int .i64 0,.int .i64 a,.int .i64 b] 57)).alloc (.cells #[.int .i64 0,.bool false,.int .i64 0,.int .i64 0,.int .i64 0,.int .i64 0,.int .i64 0,.int .u64 0,.int .i64 0,.int .i64 0,.int .u64 0,.int .i64 0,.int .u64 0,.int .u64 0,.int .i64 0] 86)))
 go_wp2_with fail;with_reducible refine HI.out.mono ?_
 rintro e w2 ⟨rfl,hC2⟩;have HC2:=Lib.hid (HC0.out.trans hC2 fun _ _ e=>e.elim)
 have HA2:=Lib.hid (hC2.blk0 HA0.out)
 have HB2:=Lib.hid (hC2.blk0 HB0.out)
 clear hC2 HC0 HA0 HB0 HI;have c3:=(Chg.refl NoB w2).alloc (.cells #[.int .i64 0,.bool false,.int .i64 0,.int .i64 0,.int .i64 0,.int .i64 0,.int .i64 0,.int .u64 0,.int .i64 0,.int .i64 0,.int .u64 0,.int .i64 0,.int .u64 0,.int .u64 0,.int .i64 (-1)] 86)
 have HC3:=Lib.hid (HC2.out.trans c3 fun _ _ e=>e.elim)
 have HA3:=Lib.hid (c3.blk0 HA2.out)
 have HB3:=Lib.hid (c3.blk0 HB2.out)
 have HE3:=Lib.hid (Blk.new w2 #[.int .i64 0,.bool false,.int .i64 0,.int .i64 0,.int .i64 0,.int .i64 0,.int .i64 0,.int .u64 0,.int .i64 0,.int .i64 0,.int .u64 0,.int .i64 0,.int .u64 0,.int .u64 0,.int .i64 (-1)] 86)
 have HR3:=Lib.hid (HR.out _ HC3.out)
 have f:=HA3.out.cell
 have fl:=HA3.out.lt
 clear c3;go_wp2_with fail;with_reducible refine HR3.out.mono ?_
 rintro e w4 ⟨rfl,x1,F0',Fn',hQ,hP1,hF,hC⟩;obtain ⟨tick,steps,bad,fv,nf,fs,ov,no,os⟩:=x1
 obtain ⟨q1,q2⟩:=HP.out _ hP1
 replace q1:steps<1099511627776:=q1
 replace q2:bad<1099511627776:=q2
 have zs:=HC2.out.size
 have zb2:=HB2.out.lt
 rw [World.size_alloc] at hF
 have hC3:=HC3.out
 have hE3:=HE3.out
 have hB3:=HB3.out
 have hb:=Hb.out
 clear HR3 HC2 HA2 HB2 HC3 HA3 HB3 HE3 f fl HR Hb;generalize hzb:w.heap.size=b0 at *;generalize hze:w2.heap.size=eb at *;have nE:∀k,InC F0' Fn' n k→k≠eb∧k≠b0+1:=fun k hk=>(hF k hk).elim (fun h=>by have:=hb k h;omega) fun h=>by omega
 have nI:∀k,InC F0 Fn n k→k≠eb∧k≠b0+1:=fun k h=>by have:=hb k h;omega
 have ye:=hC.blk hE3 fun e=>(nI _ e).1 rfl
 have yb:=hC.blk hB3 fun e=>(nI _ e).2 rfl
 have HS1:=store_all ye [.int .i64 what,.bool done,.int .i64 op,.int .i64 rd,.int .i64 rs,.int .i64 rt,.int .i64 im,.int .u64 pc,.int .i64 cause,.int .i64 access,.int .u64 addr,.int .i64 size,.int .u64 old,.int .u64 new,.int .i64 ev] rfl
 have hQ5:=hQ.chg HS1.2 (fun k hk e=>(nE k (.inl hk)).1 e) (fun i k hi hk e=>(nE k (.inr ⟨i,hi,hk⟩)).1 e)
 have yb5:=HS1.2.blk yb (show ¬b0+1=eb by omega)
 obtain ⟨hQ6,hC6⟩:=hQ5.steps (steps+1)
 have hcb:=nE cb (.inl hQ.own.f0)
 have hcbI:=hF cb (.inl hQ.own.f0)
 have yb6:=hC6.blk yb5 (fun e=>hcb.2 e.symm)
 have ye6:=hC6.blk HS1.1 (fun e=>hcb.1 e.symm)
 obtain ⟨vr,bag,hB5,-,-,-⟩:=hQ5.own.ex
 have HS2:=store_all yb6 [.int .i64 what,.bool done,.int .i64 op,.int .i64 rd,.int .i64 rs,.int .i64 rt,.int .i64 im,.int .u64 pc,.int .i64 cause,.int .i64 access,.int .u64 addr,.int .i64 size,.int .u64 old,.int .u64 new,.int .i64 ev] rfl
 have hQ7:=hQ6.chg HS2.2 (fun k hk e=>(nE k (.inl hk)).2 e) (fun i k hi hk e=>(nE k (.inr ⟨i,hi,hk⟩)).2 e)
 have hC7:=(((((hC3.mono (S':=fun k=>InC F0 Fn n k∨b0≤k) fun _ _ e=>e.elim).trans (hC.mono (S':=fun k=>InC F0 Fn n k∨b0≤k) fun _ _ e=>.inl e) fun _ _ e=>e).trans (HS1.2.mono (S':=fun k=>InC F0 Fn n k∨b0≤k) fun k _ e=>.inr (by have:k=eb:=e;omega)) fun _ _ e=>e).trans (hC6.mono (S':=fun k=>InC F0 Fn n k∨b0≤k) fun k _ (e:k=cb)=>e▸hcbI.imp id fun h=>by omega) fun _ _ e=>e).trans (HS2.2.mono (S':=fun k=>InC F0 Fn n k∨b0≤k) fun k _ e=>.inr (by have:k=b0+1:=e;omega)) fun _ _ e=>e).mono (S':=InC F0 Fn n) fun k hk e=>e.elim id fun e=>absurd e (by rw [hzb] at hk;omega)
 have HF:=Lib.hid (And.intro hQ7 (And.intro hP1 (And.intro (show ∀k,InC F0' Fn' n k→InC F0 Fn n k∨b0≤k from fun k hk=>(hF k hk).imp id fun h=>by omega) hC7)))
 have HZb:=Lib.hid hzb
 have hBc:=hB5.cell
 have hBz:=hB5.frozen
 have hBl:=hB5.lt
 obtain ⟨w5,hw5⟩:∃x,w4.setCells eb 0 [.int .i64 what,.bool done,.int .i64 op,.int .i64 rd,.int .i64 rs,.int .i64 rt,.int .i64 im,.int .u64 pc,.int .i64 cause,.int .i64 access,.int .u64 addr,.int .i64 size,.int .u64 old,.int .u64 new,.int .i64 ev]=x:=⟨_,rfl⟩
 rw [hw5] at HF HS1 HS2 hB5 hBc hBz hBl ye6 yb6
 replace hw5:(((((((((((((((w4.setCell ⟨eb,0,none⟩ (.int .i64 what)).setCell ⟨eb,1,none⟩ (.bool done)).setCell ⟨eb,2,none⟩ (.int .i64 op)).setCell ⟨eb,3,none⟩ (.int .i64 rd)).setCell ⟨eb,4,none⟩ (.int .i64 rs)).setCell ⟨eb,5,none⟩ (.int .i64 rt)).setCell ⟨eb,6,none⟩ (.int .i64 im)).setCell ⟨eb,7,none⟩ (.int .u64 pc)).setCell ⟨eb,8,none⟩ (.int .i64 cause)).setCell ⟨eb,9,none⟩ (.int .i64 access)).setCell ⟨eb,10,none⟩ (.int .u64 addr)).setCell ⟨eb,11,none⟩ (.int .i64 size)).setCell ⟨eb,12,none⟩ (.int .u64 old)).setCell ⟨eb,13,none⟩ (.int .u64 new)).setCell ⟨eb,14,none⟩ (.int .i64 ev))=w5:=hw5
 obtain ⟨w6,hw6⟩:∃x,w5.setCell ⟨cb,4,none⟩ (.int .i64 ((steps+1:Nat):Int))=x:=⟨_,rfl⟩
 rw [hw6] at HF HS2 ye6 yb6
 replace hw6:w5.setCell ⟨cb,4,none⟩ (.int .i64 ((steps:Int)+1))=w6:=hw6
 obtain ⟨w8,hw8⟩:∃x,w6.setCells (b0+1) 0 [.int .i64 what,.bool done,.int .i64 op,.int .i64 rd,.int .i64 rs,.int .i64 rt,.int .i64 im,.int .u64 pc,.int .i64 cause,.int .i64 access,.int .u64 addr,.int .i64 size,.int .u64 old,.int .u64 new,.int .i64 ev]=x:=⟨_,rfl⟩
 rw [hw8] at HF HS2
 replace hw8:(((((((((((((((w6.setCell ⟨b0+1,0,none⟩ (.int .i64 what)).setCell ⟨b0+1,1,none⟩ (.bool done)).setCell ⟨b0+1,2,none⟩ (.int .i64 op)).setCell ⟨b0+1,3,none⟩ (.int .i64 rd)).setCell ⟨b0+1,4,none⟩ (.int .i64 rs)).setCell ⟨b0+1,5,none⟩ (.int .i64 rt)).setCell ⟨b0+1,6,none⟩ (.int .i64 im)).setCell ⟨b0+1,7,none⟩ (.int .u64 pc)).setCell ⟨b0+1,8,none⟩ (.int .i64 cause)).setCell ⟨b0+1,9,none⟩ (.int .i64 access)).setCell ⟨b0+1,10,none⟩ (.int .u64 addr)).setCell ⟨b0+1,11,none⟩ (.int .i64 size)).setCell ⟨b0+1,12,none⟩ (.int .u64 old)).setCell ⟨b0+1,13,none⟩ (.int .u64 new)).setCell ⟨b0+1,14,none⟩ (.int .i64 ev))=w8:=hw8
 have e1:IntKind.i64.wrap ((steps:Int)+1)=(steps:Int)+1:=IntWalk.i64_in _ (by omega)
 have y1:=ye.frozen
 have y2:=ye.lt
 have y3:=ye.cell
 have y4:=ye6.cell
 have y5:=ye6.lt
 have y6:=yb6.cell
 have y7:=yb6.frozen
 have y8:=yb6.lt
 have q:=HS2.1.cell
 have ql:=HS2.1.lt
 clear ye ye6 yb6 yb5 yb HS1 HS2 hQ5 hQ6 hQ7 hC7 hC6 hB5 hQ hC hF hC3 hE3 hB3 hb nE nI hcb hcbI hzb hze zs zb2;go_wp2_with fail;exact bodyPost_ret (v:=.tuple #[.agg #[.int .i64 what,.bool done,.int .i64 op,.int .i64 rd,.int .i64 rs,.int .i64 rt,.int .i64 im,.int .u64 pc,.int .i64 cause,.int .i64 access,.int .u64 addr,.int .i64 size,.int .u64 old,.int .u64 new,.int .i64 ev],.bool true]) (by simp [results,Tryz.results49,go_sem,q]) rfl ⟨rfl,⟨tick,steps,bad,fv,nf,fs,ov,no,os⟩,F0',Fn',by rw [HZb.out];exact HF.out⟩
theorem Do_runfalse {w:World} {F0:Nat→Prop} {Fn:Nat→Nat→Prop} {cb n sh:Nat} {nb:Nat→Nat} {y':Nat→Nst} (P:Cst→Prop) (hP:∀x,P x→x.steps<1099511627776∧x.bad<1099511627776) (hb:∀k,InC F0 Fn n k→k<w.heap.size) (a b what:Int) (done:Bool) (op rd rs rt im:Int) (pc:Int) (cause access:Int) (addr:Int) (size:Int) (old new ev:Int)
  (hR:∀w',Chg NoB w w'→Calls Tryz.prog 78 #[.pointer (some ⟨cb,0,none⟩),.int .i64 a,.int .i64 b] w' (RetW (.tuple #[.agg #[.int .i64 what,.bool done,.int .i64 op,.int .i64 rd,.int .i64 rs,.int .i64 rt,.int .i64 im,.int .u64 pc,.int .i64 cause,.int .i64 access,.int .u64 addr,.int .i64 size,.int .u64 old,.int .u64 new,.int .i64 ev],.bool false]) fun w''=>∃x1 F0' Fn',QC w'' F0' Fn' cb n sh nb x1 y'∧P x1∧(∀k,InC F0' Fn' n k→InC F0 Fn n k∨w'.heap.size≤k)∧Chg (InC F0 Fn n) w' w'')) :
  Calls Tryz.prog 49 #[.pointer (some ⟨cb,0,none⟩),.agg #[.int .i64 0,.int .i64 a,.int .i64 b]] w (RetW (.tuple #[.agg #[.int .i64 what,.bool done,.int .i64 op,.int .i64 rd,.int .i64 rs,.int .i64 rt,.int .i64 im,.int .u64 pc,.int .i64 cause,.int .i64 access,.int .u64 addr,.int .i64 size,.int .u64 old,.int .u64 new,.int .i64 ev],.bool false]) fun w''=>∃x1 F0' Fn',QC w'' F0' Fn' cb n sh nb { x1 with steps:=x1.steps+1,bad:=x1.bad+1} y'∧P x1∧(∀k,InC F0' Fn' n k→InC F0 Fn n k∨w.heap.size≤k)∧Chg (InC F0 Fn n) w w''):=by
 have HP:=Lib.hid hP
 have Hb:=Lib.hid hb
 have HR:=Lib.hid hR
 clear hP hb hR;have c0:=((Chg.refl NoB w).alloc (.cells #[.int .i64 0,.int .i64 a,.int .i64 b] 57)).alloc (.cells #[.int .i64 0,.bool false,.int .i64 0,.int .i64 0,.int .i64 0,.int .i64 0,.int .i64 0,.int .u64 0,.int .i64 0,.int .i64 0,.int .u64 0,.int .i64 0,.int .u64 0,.int .u64 0,.int .i64 0] 86)
 have HC0:=Lib.hid c0
 have HA0:=Lib.hid ((Blk.new w #[.int .i64 0,.int .i64 a,.int .i64 b] 57).alloc (.cells #[.int .i64 0,.bool false,.int .i64 0,.int .i64 0,.int .i64 0,.int .i64 0,.int .i64 0,.int .u64 0,.int .i64 0,.int .i64 0,.int .u64 0,.int .i64 0,.int .u64 0,.int .u64 0,.int .i64 0] 86))
 have hB0:=Blk.new (w.alloc (.cells #[.int .i64 0,.int .i64 a,.int .i64 b] 57)) #[.int .i64 0,.bool false,.int .i64 0,.int .i64 0,.int .i64 0,.int .i64 0,.int .i64 0,.int .u64 0,.int .i64 0,.int .i64 0,.int .u64 0,.int .i64 0,.int .u64 0,.int .u64 0,.int .i64 0] 86
 rw [World.size_alloc] at hB0
 have HB0:=Lib.hid hB0
 clear hB0;clear c0;go_enter Tryz.func49,Tryz.ntmps49;have HI:=Lib.hid (idle_any ((w.alloc (.cells #[.int .i64 0,.int .i64 a,.int .i64 b] 57)).alloc (.cells #[.int .i64 0,.bool false,.int .i64 0,.int .i64 0,.int .i64 0,.int .i64 0,.int .i64 0,.int .u64 0,.int .i64 0,.int .i64 0,.int .u64 0,.int .i64 0,.int .u64 0,.int .u64 0,.int .i64 0] 86)))
 go_wp2_with fail;with_reducible refine HI.out.mono ?_
 rintro e w2 ⟨rfl,hC2⟩;have HC2:=Lib.hid (HC0.out.trans hC2 fun _ _ e=>e.elim)
 have HA2:=Lib.hid (hC2.blk0 HA0.out)
 have HB2:=Lib.hid (hC2.blk0 HB0.out)
 clear hC2 HC0 HA0 HB0 HI;have c3:=(Chg.refl NoB w2).alloc (.cells #[.int .i64 0,.bool false,.int .i64 0,.int .i64 0,.int .i64 0,.int .i64 0,.int .i64 0,.int .u64 0,.int .i64 0,.int .i64 0,.int .u64 0,.int .i64 0,.int .u64 0,.int .u64 0,.int .i64 (-1)] 86)
 have HC3:=Lib.hid (HC2.out.trans c3 fun _ _ e=>e.elim)
 have HA3:=Lib.hid (c3.blk0 HA2.out)
 have HB3:=Lib.hid (c3.blk0 HB2.out)
 have HE3:=Lib.hid (Blk.new w2 #[.int .i64 0,.bool false,.int .i64 0,.int .i64 0,.int .i64 0,.int .i64 0,.int .i64 0,.int .u64 0,.int .i64 0,.int .i64 0,.int .u64 0,.int .i64 0,.int .u64 0,.int .u64 0,.int .i64 (-1)] 86)
 have HR3:=Lib.hid (HR.out _ HC3.out)
 have f:=HA3.out.cell
 have fl:=HA3.out.lt
 clear c3;go_wp2_with fail;with_reducible refine HR3.out.mono ?_
 rintro e w4 ⟨rfl,x1,F0',Fn',hQ,hP1,hF,hC⟩;obtain ⟨tick,steps,bad,fv,nf,fs,ov,no,os⟩:=x1
 obtain ⟨q1,q2⟩:=HP.out _ hP1
 replace q1:steps<1099511627776:=q1
 replace q2:bad<1099511627776:=q2
 have zs:=HC2.out.size
 have zb2:=HB2.out.lt
 rw [World.size_alloc] at hF
 have hC3:=HC3.out
 have hE3:=HE3.out
 have hB3:=HB3.out
 have hb:=Hb.out
 clear HR3 HC2 HA2 HB2 HC3 HA3 HB3 HE3 f fl HR Hb;generalize hzb:w.heap.size=b0 at *;generalize hze:w2.heap.size=eb at *;have nE:∀k,InC F0' Fn' n k→k≠eb∧k≠b0+1:=fun k hk=>(hF k hk).elim (fun h=>by have:=hb k h;omega) fun h=>by omega
 have nI:∀k,InC F0 Fn n k→k≠eb∧k≠b0+1:=fun k h=>by have:=hb k h;omega
 have ye:=hC.blk hE3 fun e=>(nI _ e).1 rfl
 have yb:=hC.blk hB3 fun e=>(nI _ e).2 rfl
 have HS1:=store_all ye [.int .i64 what,.bool done,.int .i64 op,.int .i64 rd,.int .i64 rs,.int .i64 rt,.int .i64 im,.int .u64 pc,.int .i64 cause,.int .i64 access,.int .u64 addr,.int .i64 size,.int .u64 old,.int .u64 new,.int .i64 ev] rfl
 have hQ5:=hQ.chg HS1.2 (fun k hk e=>(nE k (.inl hk)).1 e) (fun i k hi hk e=>(nE k (.inr ⟨i,hi,hk⟩)).1 e)
 have yb5:=HS1.2.blk yb (show ¬b0+1=eb by omega)
 obtain ⟨hQ6,hC6⟩:=hQ5.steps (steps+1)
 have hcb:=nE cb (.inl hQ.own.f0)
 have hcbI:=hF cb (.inl hQ.own.f0)
 have yb6:=hC6.blk yb5 (fun e=>hcb.2 e.symm)
 have ye6:=hC6.blk HS1.1 (fun e=>hcb.1 e.symm)
 obtain ⟨vr,bag,hB5,-,-,-⟩:=hQ5.own.ex
 obtain ⟨vr2,bag2,hB6,-,-,-⟩:=hQ6.own.ex
 have hc6:=hB6.cell
 have hz6:=hB6.frozen
 have hl6:=hB6.lt
 clear hB6;obtain ⟨hQ6,hC6b⟩:=hQ6.bad (bad+1)
 have yb6:=hC6b.blk yb6 (fun e=>hcb.2 e.symm)
 have ye6:=hC6b.blk ye6 (fun e=>hcb.1 e.symm)
 have HS2:=store_all yb6 [.int .i64 what,.bool done,.int .i64 op,.int .i64 rd,.int .i64 rs,.int .i64 rt,.int .i64 im,.int .u64 pc,.int .i64 cause,.int .i64 access,.int .u64 addr,.int .i64 size,.int .u64 old,.int .u64 new,.int .i64 ev] rfl
 have hQ7:=hQ6.chg HS2.2 (fun k hk e=>(nE k (.inl hk)).2 e) (fun i k hi hk e=>(nE k (.inr ⟨i,hi,hk⟩)).2 e)
 have hC7:=((((((hC3.mono (S':=fun k=>InC F0 Fn n k∨b0≤k) fun _ _ e=>e.elim).trans (hC.mono (S':=fun k=>InC F0 Fn n k∨b0≤k) fun _ _ e=>.inl e) fun _ _ e=>e).trans (HS1.2.mono (S':=fun k=>InC F0 Fn n k∨b0≤k) fun k _ e=>.inr (by have:k=eb:=e;omega)) fun _ _ e=>e).trans (hC6.mono (S':=fun k=>InC F0 Fn n k∨b0≤k) fun k _ (e:k=cb)=>e▸hcbI.imp id fun h=>by omega) fun _ _ e=>e).trans (hC6b.mono (S':=fun k=>InC F0 Fn n k∨b0≤k) fun k _ (e:k=cb)=>e▸hcbI.imp id fun h=>by omega) fun _ _ e=>e).trans (HS2.2.mono (S':=fun k=>InC F0 Fn n k∨b0≤k) fun k _ e=>.inr (by have:k=b0+1:=e;omega)) fun _ _ e=>e).mono (S':=InC F0 Fn n) fun k hk e=>e.elim id fun e=>absurd e (by rw [hzb] at hk;omega)
 have HF:=Lib.hid (And.intro hQ7 (And.intro hP1 (And.intro (show ∀k,InC F0' Fn' n k→InC F0 Fn n k∨b0≤k from fun k hk=>(hF k hk).imp id fun h=>by omega) hC7)))
 have HZb:=Lib.hid hzb
 have hBc:=hB5.cell
 have hBz:=hB5.frozen
 have hBl:=hB5.lt
 obtain ⟨w5,hw5⟩:∃x,w4.setCells eb 0 [.int .i64 what,.bool done,.int .i64 op,.int .i64 rd,.int .i64 rs,.int .i64 rt,.int .i64 im,.int .u64 pc,.int .i64 cause,.int .i64 access,.int .u64 addr,.int .i64 size,.int .u64 old,.int .u64 new,.int .i64 ev]=x:=⟨_,rfl⟩
 rw [hw5] at HF HS1 HS2 hB5 hBc hBz hBl ye6 yb6 hc6 hz6 hl6
 replace hw5:(((((((((((((((w4.setCell ⟨eb,0,none⟩ (.int .i64 what)).setCell ⟨eb,1,none⟩ (.bool done)).setCell ⟨eb,2,none⟩ (.int .i64 op)).setCell ⟨eb,3,none⟩ (.int .i64 rd)).setCell ⟨eb,4,none⟩ (.int .i64 rs)).setCell ⟨eb,5,none⟩ (.int .i64 rt)).setCell ⟨eb,6,none⟩ (.int .i64 im)).setCell ⟨eb,7,none⟩ (.int .u64 pc)).setCell ⟨eb,8,none⟩ (.int .i64 cause)).setCell ⟨eb,9,none⟩ (.int .i64 access)).setCell ⟨eb,10,none⟩ (.int .u64 addr)).setCell ⟨eb,11,none⟩ (.int .i64 size)).setCell ⟨eb,12,none⟩ (.int .u64 old)).setCell ⟨eb,13,none⟩ (.int .u64 new)).setCell ⟨eb,14,none⟩ (.int .i64 ev))=w5:=hw5
 obtain ⟨w6,hw6⟩:∃x,w5.setCell ⟨cb,4,none⟩ (.int .i64 ((steps+1:Nat):Int))=x:=⟨_,rfl⟩
 rw [hw6] at HF HS2 ye6 yb6 hc6 hz6 hl6
 replace hw6:w5.setCell ⟨cb,4,none⟩ (.int .i64 ((steps:Int)+1))=w6:=hw6
 obtain ⟨w7,hw7⟩:∃x,w6.setCell ⟨cb,5,none⟩ (.int .i64 ((bad+1:Nat):Int))=x:=⟨_,rfl⟩
 rw [hw7] at HF HS2 ye6 yb6
 replace hw7:w6.setCell ⟨cb,5,none⟩ (.int .i64 ((bad:Int)+1))=w7:=hw7
 have e2:IntKind.i64.wrap ((bad:Int)+1)=(bad:Int)+1:=IntWalk.i64_in _ (by omega)
 obtain ⟨w8,hw8⟩:∃x,w7.setCells (b0+1) 0 [.int .i64 what,.bool done,.int .i64 op,.int .i64 rd,.int .i64 rs,.int .i64 rt,.int .i64 im,.int .u64 pc,.int .i64 cause,.int .i64 access,.int .u64 addr,.int .i64 size,.int .u64 old,.int .u64 new,.int .i64 ev]=x:=⟨_,rfl⟩
 rw [hw8] at HF HS2
 replace hw8:(((((((((((((((w7.setCell ⟨b0+1,0,none⟩ (.int .i64 what)).setCell ⟨b0+1,1,none⟩ (.bool done)).setCell ⟨b0+1,2,none⟩ (.int .i64 op)).setCell ⟨b0+1,3,none⟩ (.int .i64 rd)).setCell ⟨b0+1,4,none⟩ (.int .i64 rs)).setCell ⟨b0+1,5,none⟩ (.int .i64 rt)).setCell ⟨b0+1,6,none⟩ (.int .i64 im)).setCell ⟨b0+1,7,none⟩ (.int .u64 pc)).setCell ⟨b0+1,8,none⟩ (.int .i64 cause)).setCell ⟨b0+1,9,none⟩ (.int .i64 access)).setCell ⟨b0+1,10,none⟩ (.int .u64 addr)).setCell ⟨b0+1,11,none⟩ (.int .i64 size)).setCell ⟨b0+1,12,none⟩ (.int .u64 old)).setCell ⟨b0+1,13,none⟩ (.int .u64 new)).setCell ⟨b0+1,14,none⟩ (.int .i64 ev))=w8:=hw8
 have e1:IntKind.i64.wrap ((steps:Int)+1)=(steps:Int)+1:=IntWalk.i64_in _ (by omega)
 have y1:=ye.frozen
 have y2:=ye.lt
 have y3:=ye.cell
 have y4:=ye6.cell
 have y5:=ye6.lt
 have y6:=yb6.cell
 have y7:=yb6.frozen
 have y8:=yb6.lt
 have q:=HS2.1.cell
 have ql:=HS2.1.lt
 clear ye ye6 yb6 yb5 yb HS1 HS2 hQ5 hQ6 hQ7 hC7 hC6 hB5 hQ hC hF hC3 hE3 hB3 hb nE nI hcb hcbI hzb hze zs zb2;go_wp2_with fail;exact bodyPost_ret (v:=.tuple #[.agg #[.int .i64 what,.bool done,.int .i64 op,.int .i64 rd,.int .i64 rs,.int .i64 rt,.int .i64 im,.int .u64 pc,.int .i64 cause,.int .i64 access,.int .u64 addr,.int .i64 size,.int .u64 old,.int .u64 new,.int .i64 ev],.bool false]) (by simp [results,Tryz.results49,go_sem,q]) rfl ⟨rfl,⟨tick,steps,bad,fv,nf,fs,ov,no,os⟩,F0',Fn',by rw [HZb.out];exact HF.out⟩
theorem Do_runtrueZ {w:World} {F0:Nat→Prop} {Fn:Nat→Nat→Prop} {cb n sh:Nat} {nb:Nat→Nat} (P:Cst→(Nat→Nst)→Prop) (hP:∀x y,P x y→x.steps<1099511627776∧x.bad<1099511627776) (hb:∀k,InC F0 Fn n k→k<w.heap.size) (a b what:Int) (done:Bool) (op rd rs rt im:Int) (pc:Int) (cause access:Int) (addr:Int) (size:Int) (old new ev:Int)
  (hR:∀w',Chg NoB w w'→Calls Tryz.prog 78 #[.pointer (some ⟨cb,0,none⟩),.int .i64 a,.int .i64 b] w' (RetW (.tuple #[.agg #[.int .i64 what,.bool done,.int .i64 op,.int .i64 rd,.int .i64 rs,.int .i64 rt,.int .i64 im,.int .u64 pc,.int .i64 cause,.int .i64 access,.int .u64 addr,.int .i64 size,.int .u64 old,.int .u64 new,.int .i64 ev],.bool true]) fun w''=>∃x1 y' F0' Fn',QC w'' F0' Fn' cb n sh nb x1 y'∧P x1 y'∧(∀k,InC F0' Fn' n k→InC F0 Fn n k∨w'.heap.size≤k)∧Chg (InC F0 Fn n) w' w'')) :
  Calls Tryz.prog 49 #[.pointer (some ⟨cb,0,none⟩),.agg #[.int .i64 0,.int .i64 a,.int .i64 b]] w (RetW (.tuple #[.agg #[.int .i64 what,.bool done,.int .i64 op,.int .i64 rd,.int .i64 rs,.int .i64 rt,.int .i64 im,.int .u64 pc,.int .i64 cause,.int .i64 access,.int .u64 addr,.int .i64 size,.int .u64 old,.int .u64 new,.int .i64 ev],.bool true]) fun w''=>∃x1 y' F0' Fn',QC w'' F0' Fn' cb n sh nb { x1 with steps:=x1.steps+1} y'∧P x1 y'∧(∀k,InC F0' Fn' n k→InC F0 Fn n k∨w.heap.size≤k)∧Chg (InC F0 Fn n) w w''):=by
 have HP:=Lib.hid hP
 have Hb:=Lib.hid hb
 have HR:=Lib.hid hR
 clear hP hb hR;have c0:=((Chg.refl NoB w).alloc (.cells #[.int .i64 0,.int .i64 a,.int .i64 b] 57)).alloc (.cells #[.int .i64 0,.bool false,.int .i64 0,.int .i64 0,.int .i64 0,.int .i64 0,.int .i64 0,.int .u64 0,.int .i64 0,.int .i64 0,.int .u64 0,.int .i64 0,.int .u64 0,.int .u64 0,.int .i64 0] 86)
 have HC0:=Lib.hid c0
 have HA0:=Lib.hid ((Blk.new w #[.int .i64 0,.int .i64 a,.int .i64 b] 57).alloc (.cells #[.int .i64 0,.bool false,.int .i64 0,.int .i64 0,.int .i64 0,.int .i64 0,.int .i64 0,.int .u64 0,.int .i64 0,.int .i64 0,.int .u64 0,.int .i64 0,.int .u64 0,.int .u64 0,.int .i64 0] 86))
 have hB0:=Blk.new (w.alloc (.cells #[.int .i64 0,.int .i64 a,.int .i64 b] 57)) #[.int .i64 0,.bool false,.int .i64 0,.int .i64 0,.int .i64 0,.int .i64 0,.int .i64 0,.int .u64 0,.int .i64 0,.int .i64 0,.int .u64 0,.int .i64 0,.int .u64 0,.int .u64 0,.int .i64 0] 86
 rw [World.size_alloc] at hB0
 have HB0:=Lib.hid hB0
 clear hB0;clear c0;go_enter Tryz.func49,Tryz.ntmps49;have HI:=Lib.hid (idle_any ((w.alloc (.cells #[.int .i64 0,.int .i64 a,.int .i64 b] 57)).alloc (.cells #[.int .i64 0,.bool false,.int .i64 0,.int .i64 0,.int .i64 0,.int .i64 0,.int .i64 0,.int .u64 0,.int .i64 0,.int .i64 0,.int .u64 0,.int .i64 0,.int .u64 0,.int .u64 0,.int .i64 0] 86)))
 go_wp2_with fail;with_reducible refine HI.out.mono ?_
 rintro e w2 ⟨rfl,hC2⟩;have HC2:=Lib.hid (HC0.out.trans hC2 fun _ _ e=>e.elim)
 have HA2:=Lib.hid (hC2.blk0 HA0.out)
 have HB2:=Lib.hid (hC2.blk0 HB0.out)
 clear hC2 HC0 HA0 HB0 HI;have c3:=(Chg.refl NoB w2).alloc (.cells #[.int .i64 0,.bool false,.int .i64 0,.int .i64 0,.int .i64 0,.int .i64 0,.int .i64 0,.int .u64 0,.int .i64 0,.int .i64 0,.int .u64 0,.int .i64 0,.int .u64 0,.int .u64 0,.int .i64 (-1)] 86)
 have HC3:=Lib.hid (HC2.out.trans c3 fun _ _ e=>e.elim)
 have HA3:=Lib.hid (c3.blk0 HA2.out)
 have HB3:=Lib.hid (c3.blk0 HB2.out)
 have HE3:=Lib.hid (Blk.new w2 #[.int .i64 0,.bool false,.int .i64 0,.int .i64 0,.int .i64 0,.int .i64 0,.int .i64 0,.int .u64 0,.int .i64 0,.int .i64 0,.int .u64 0,.int .i64 0,.int .u64 0,.int .u64 0,.int .i64 (-1)] 86)
 have HR3:=Lib.hid (HR.out _ HC3.out)
 have f:=HA3.out.cell
 have fl:=HA3.out.lt
 clear c3;go_wp2_with fail;with_reducible refine HR3.out.mono ?_
 rintro e w4 ⟨rfl,x1,y',F0',Fn',hQ,hP1,hF,hC⟩;obtain ⟨tick,steps,bad,fv,nf,fs,ov,no,os⟩:=x1
 obtain ⟨q1,q2⟩:=HP.out _ _ hP1
 replace q1:steps<1099511627776:=q1
 replace q2:bad<1099511627776:=q2
 have zs:=HC2.out.size
 have zb2:=HB2.out.lt
 rw [World.size_alloc] at hF
 have hC3:=HC3.out
 have hE3:=HE3.out
 have hB3:=HB3.out
 have hb:=Hb.out
 clear HR3 HC2 HA2 HB2 HC3 HA3 HB3 HE3 f fl HR Hb;generalize hzb:w.heap.size=b0 at *;generalize hze:w2.heap.size=eb at *;have nE:∀k,InC F0' Fn' n k→k≠eb∧k≠b0+1:=fun k hk=>(hF k hk).elim (fun h=>by have:=hb k h;omega) fun h=>by omega
 have nI:∀k,InC F0 Fn n k→k≠eb∧k≠b0+1:=fun k h=>by have:=hb k h;omega
 have ye:=hC.blk hE3 fun e=>(nI _ e).1 rfl
 have yb:=hC.blk hB3 fun e=>(nI _ e).2 rfl
 have HS1:=store_all ye [.int .i64 what,.bool done,.int .i64 op,.int .i64 rd,.int .i64 rs,.int .i64 rt,.int .i64 im,.int .u64 pc,.int .i64 cause,.int .i64 access,.int .u64 addr,.int .i64 size,.int .u64 old,.int .u64 new,.int .i64 ev] rfl
 have hQ5:=hQ.chg HS1.2 (fun k hk e=>(nE k (.inl hk)).1 e) (fun i k hi hk e=>(nE k (.inr ⟨i,hi,hk⟩)).1 e)
 have yb5:=HS1.2.blk yb (show ¬b0+1=eb by omega)
 obtain ⟨hQ6,hC6⟩:=hQ5.steps (steps+1)
 have hcb:=nE cb (.inl hQ.own.f0)
 have hcbI:=hF cb (.inl hQ.own.f0)
 have yb6:=hC6.blk yb5 (fun e=>hcb.2 e.symm)
 have ye6:=hC6.blk HS1.1 (fun e=>hcb.1 e.symm)
 obtain ⟨vr,bag,hB5,-,-,-⟩:=hQ5.own.ex
 have HS2:=store_all yb6 [.int .i64 what,.bool done,.int .i64 op,.int .i64 rd,.int .i64 rs,.int .i64 rt,.int .i64 im,.int .u64 pc,.int .i64 cause,.int .i64 access,.int .u64 addr,.int .i64 size,.int .u64 old,.int .u64 new,.int .i64 ev] rfl
 have hQ7:=hQ6.chg HS2.2 (fun k hk e=>(nE k (.inl hk)).2 e) (fun i k hi hk e=>(nE k (.inr ⟨i,hi,hk⟩)).2 e)
 have hC7:=(((((hC3.mono (S':=fun k=>InC F0 Fn n k∨b0≤k) fun _ _ e=>e.elim).trans (hC.mono (S':=fun k=>InC F0 Fn n k∨b0≤k) fun _ _ e=>.inl e) fun _ _ e=>e).trans (HS1.2.mono (S':=fun k=>InC F0 Fn n k∨b0≤k) fun k _ e=>.inr (by have:k=eb:=e;omega)) fun _ _ e=>e).trans (hC6.mono (S':=fun k=>InC F0 Fn n k∨b0≤k) fun k _ (e:k=cb)=>e▸hcbI.imp id fun h=>by omega) fun _ _ e=>e).trans (HS2.2.mono (S':=fun k=>InC F0 Fn n k∨b0≤k) fun k _ e=>.inr (by have:k=b0+1:=e;omega)) fun _ _ e=>e).mono (S':=InC F0 Fn n) fun k hk e=>e.elim id fun e=>absurd e (by rw [hzb] at hk;omega)
 have HF:=Lib.hid (And.intro hQ7 (And.intro hP1 (And.intro (show ∀k,InC F0' Fn' n k→InC F0 Fn n k∨b0≤k from fun k hk=>(hF k hk).imp id fun h=>by omega) hC7)))
 have HZb:=Lib.hid hzb
 have hBc:=hB5.cell
 have hBz:=hB5.frozen
 have hBl:=hB5.lt
 obtain ⟨w5,hw5⟩:∃x,w4.setCells eb 0 [.int .i64 what,.bool done,.int .i64 op,.int .i64 rd,.int .i64 rs,.int .i64 rt,.int .i64 im,.int .u64 pc,.int .i64 cause,.int .i64 access,.int .u64 addr,.int .i64 size,.int .u64 old,.int .u64 new,.int .i64 ev]=x:=⟨_,rfl⟩
 rw [hw5] at HF HS1 HS2 hB5 hBc hBz hBl ye6 yb6
 replace hw5:(((((((((((((((w4.setCell ⟨eb,0,none⟩ (.int .i64 what)).setCell ⟨eb,1,none⟩ (.bool done)).setCell ⟨eb,2,none⟩ (.int .i64 op)).setCell ⟨eb,3,none⟩ (.int .i64 rd)).setCell ⟨eb,4,none⟩ (.int .i64 rs)).setCell ⟨eb,5,none⟩ (.int .i64 rt)).setCell ⟨eb,6,none⟩ (.int .i64 im)).setCell ⟨eb,7,none⟩ (.int .u64 pc)).setCell ⟨eb,8,none⟩ (.int .i64 cause)).setCell ⟨eb,9,none⟩ (.int .i64 access)).setCell ⟨eb,10,none⟩ (.int .u64 addr)).setCell ⟨eb,11,none⟩ (.int .i64 size)).setCell ⟨eb,12,none⟩ (.int .u64 old)).setCell ⟨eb,13,none⟩ (.int .u64 new)).setCell ⟨eb,14,none⟩ (.int .i64 ev))=w5:=hw5
 obtain ⟨w6,hw6⟩:∃x,w5.setCell ⟨cb,4,none⟩ (.int .i64 ((steps+1:Nat):Int))=x:=⟨_,rfl⟩
 rw [hw6] at HF HS2 ye6 yb6
 replace hw6:w5.setCell ⟨cb,4,none⟩ (.int .i64 ((steps:Int)+1))=w6:=hw6
 obtain ⟨w8,hw8⟩:∃x,w6.setCells (b0+1) 0 [.int .i64 what,.bool done,.int .i64 op,.int .i64 rd,.int .i64 rs,.int .i64 rt,.int .i64 im,.int .u64 pc,.int .i64 cause,.int .i64 access,.int .u64 addr,.int .i64 size,.int .u64 old,.int .u64 new,.int .i64 ev]=x:=⟨_,rfl⟩
 rw [hw8] at HF HS2
 replace hw8:(((((((((((((((w6.setCell ⟨b0+1,0,none⟩ (.int .i64 what)).setCell ⟨b0+1,1,none⟩ (.bool done)).setCell ⟨b0+1,2,none⟩ (.int .i64 op)).setCell ⟨b0+1,3,none⟩ (.int .i64 rd)).setCell ⟨b0+1,4,none⟩ (.int .i64 rs)).setCell ⟨b0+1,5,none⟩ (.int .i64 rt)).setCell ⟨b0+1,6,none⟩ (.int .i64 im)).setCell ⟨b0+1,7,none⟩ (.int .u64 pc)).setCell ⟨b0+1,8,none⟩ (.int .i64 cause)).setCell ⟨b0+1,9,none⟩ (.int .i64 access)).setCell ⟨b0+1,10,none⟩ (.int .u64 addr)).setCell ⟨b0+1,11,none⟩ (.int .i64 size)).setCell ⟨b0+1,12,none⟩ (.int .u64 old)).setCell ⟨b0+1,13,none⟩ (.int .u64 new)).setCell ⟨b0+1,14,none⟩ (.int .i64 ev))=w8:=hw8
 have e1:IntKind.i64.wrap ((steps:Int)+1)=(steps:Int)+1:=IntWalk.i64_in _ (by omega)
 have y1:=ye.frozen
 have y2:=ye.lt
 have y3:=ye.cell
 have y4:=ye6.cell
 have y5:=ye6.lt
 have y6:=yb6.cell
 have y7:=yb6.frozen
 have y8:=yb6.lt
 have q:=HS2.1.cell
 have ql:=HS2.1.lt
 clear ye ye6 yb6 yb5 yb HS1 HS2 hQ5 hQ6 hQ7 hC7 hC6 hB5 hQ hC hF hC3 hE3 hB3 hb nE nI hcb hcbI hzb hze zs zb2;go_wp2_with fail;exact bodyPost_ret (v:=.tuple #[.agg #[.int .i64 what,.bool done,.int .i64 op,.int .i64 rd,.int .i64 rs,.int .i64 rt,.int .i64 im,.int .u64 pc,.int .i64 cause,.int .i64 access,.int .u64 addr,.int .i64 size,.int .u64 old,.int .u64 new,.int .i64 ev],.bool true]) (by simp [results,Tryz.results49,go_sem,q]) rfl ⟨rfl,⟨tick,steps,bad,fv,nf,fs,ov,no,os⟩,y',F0',Fn',by rw [HZb.out];exact HF.out⟩
end Go.Proofs.YtjhnnjgnkkjmkaaGreatDoor
