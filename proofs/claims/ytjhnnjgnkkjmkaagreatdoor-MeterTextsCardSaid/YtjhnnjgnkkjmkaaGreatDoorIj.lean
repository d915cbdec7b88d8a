/- Clusters that run: an act that is no turn, whole. No condition. -/
import Derived.Test.YtjhnnjgnkkjmkaaGreatDoorIi
set_option maxHeartbeats 4000000
set_option maxRecDepth 100000
set_option linter.unusedVariables false
set_option linter.unusedSimpArgs false
namespace Go.Proofs.YtjhnnjgnkkjmkaaGreatDoor
open Go.RowKit Go.RR
theorem Do_acttrue {w:World} {F0:Nat→Prop} {Fn:Nat→Nat→Prop} {cb n sh:Nat} {nb:Nat→Nat} {y':Nat→Nst} (P:Cst→Prop) (hP:∀x,P x→x.steps<1099511627776∧x.bad<1099511627776) (hb:∀k,InC F0 Fn n k→k<w.heap.size) (kind:Int) (hk:kind≠0) (a b:Int)
  (hR:∀w',Chg NoB w w'→Calls Tryz.prog 79 #[.pointer (some ⟨cb,0,none⟩),.agg #[.int .i64 kind,.int .i64 a,.int .i64 b]] w' (RetW (.bool true) fun w''=>∃x1 F0' Fn',QC w'' F0' Fn' cb n sh nb x1 y'∧P x1∧(∀k,InC F0' Fn' n k→InC F0 Fn n k∨w'.heap.size≤k)∧Chg (InC F0 Fn n) w' w'')) :
  Calls Tryz.prog 49 #[.pointer (some ⟨cb,0,none⟩),.agg #[.int .i64 kind,.int .i64 a,.int .i64 b]] w (RetW (.tuple #[.agg #[.int .i64 0,.bool false,.int .i64 0,.int .i64 0,.int .i64 0,.int .i64 0,.int .i64 0,.int .u64 0,.int .i64 0,.int .i64 0,.int .u64 0,.int .i64 0,.int .u64 0,.int .u64 0,.int .i64 (-1)],.bool true]) fun w''=>∃x1 F0' Fn',QC w'' F0' Fn' cb n sh nb { x1 with steps:=x1.steps+1} y'∧P x1∧(∀k,InC F0' Fn' n k→InC F0 Fn n k∨w.heap.size≤k)∧Chg (InC F0 Fn n) w w''):=by
 have HP:=Lib.hid hP
 have t1:(kind == 0)=false:=by simpa using hk
 have t2:decide (kind=0)=false:=decide_eq_false hk
 have Hb:=Lib.hid hb
 have HR:=Lib.hid hR
 clear hP hb hR;have c0:=((Chg.refl NoB w).alloc (.cells #[.int .i64 kind,.int .i64 a,.int .i64 b] 57)).alloc (.cells #[.int .i64 0,.bool false,.int .i64 0,.int .i64 0,.int .i64 0,.int .i64 0,.int .i64 0,.int .u64 0,.int .i64 0,.int .i64 0,.int .u64 0,.int .i64 0,.int .u64 0,.int .u64 0,.int .i64 0] 86)
 have HC0:=Lib.hid c0
 have HA0:=Lib.hid ((Blk.new w #[.int .i64 kind,.int .i64 a,.int .i64 b] 57).alloc (.cells #[.int .i64 0,.bool false,.int .i64 0,.int .i64 0,.int .i64 0,.int .i64 0,.int .i64 0,.int .u64 0,.int .i64 0,.int .i64 0,.int .u64 0,.int .i64 0,.int .u64 0,.int .u64 0,.int .i64 0] 86))
 have hB0:=Blk.new (w.alloc (.cells #[.int .i64 kind,.int .i64 a,.int .i64 b] 57)) #[.int .i64 0,.bool false,.int .i64 0,.int .i64 0,.int .i64 0,.int .i64 0,.int .i64 0,.int .u64 0,.int .i64 0,.int .i64 0,.int .u64 0,.int .i64 0,.int .u64 0,.int .u64 0,.int .i64 0] 86
 rw [World.size_alloc] at hB0
 have HB0:=Lib.hid hB0
 clear hB0;clear c0;go_enter Tryz.func49,Tryz.ntmps49;have HI:=Lib.hid (idle_any ((w.alloc (.cells #[.int .i64 kind,.int .i64 a,.int .i64 b] 57)).alloc (.cells #[.int .i64 0,.bool false,.int .i64 0,.int .i64 0,.int .i64 0,.int .i64 0,.int .i64 0,.int .u64 0,.int .i64 0,.int .i64 0,.int .u64 0,.int .i64 0,.int .u64 0,.int .u64 0,.int .i64 0] 86)))
 go_wp2_with fail;with_reducible refine HI.out.mono ?_
 rintro e w2 ⟨rfl,hC2⟩;have HC2:=Lib.hid (HC0.out.trans hC2 fun _ _ e=>e.elim)
 have HA2:=Lib.hid (hC2.blk0 HA0.out)
 have HB2:=Lib.hid (hC2.blk0 HB0.out)
 clear hC2 HC0 HA0 HB0 HI;have c3:=(Chg.refl NoB w2).alloc (.cells #[.int .i64 0,.bool false,.int .i64 0,.int .i64 0,.int .i64 0,.int .i64 0,.int .i64 0,.int .u64 0,.int .i64 0,.int .i64 0,.int .u64 0,.int .i64 0,.int .u64 0,.int .u64 0,.int .i64 (-1)] 86)
 have HC3:=Lib.hid (HC2.out.trans c3 fun _ _ e=>e.elim)
 have HA3:=Lib.hid (c3.blk0 HA2.out)
 have HB3:=Lib.hid (c3.blk0 HB2.out)
 have HE3:=Lib.hid (Blk.new w2 #[.int .i64 0,.bool false,.int .i64 0,.int .i64 0,.int .i64 0,.int .i64 0,.int .i64 0,.int .u64 0,.int .i64 0,.int .i64 0,.int .u64 0,.int .i64 0,.int .u64 0,.int .u64 0,.int .i64 (-1)] 86)
 have HR3:=Lib.hid (HR.out _ HC3.out)
 have f:=HA3.out.cell
 have fl:=HA3.out.lt
 clear c3;go_wp2_with fail;with_reducible refine HR3.out.mono ?_
 rintro e w4 ⟨rfl,x1,F0',Fn',hQ,hP1,hF,hC⟩;obtain ⟨tick,steps,bad,fv,nf,fs,ov,no,os⟩:=x1
 obtain ⟨q1,q2⟩:=HP.out _ hP1
 replace q1:steps<1099511627776:=q1
 replace q2:bad<1099511627776:=q2
 have zs:=HC2.out.size
 have zb2:=HB2.out.lt
 rw [World.size_alloc] at hF
 have hC3:=HC3.out
 have hE3:=HE3.out
 have hB3:=HB3.out
 have hb:=Hb.out
 clear HR3 HC2 HA2 HB2 HC3 HA3 HB3 HE3 f fl HR Hb;generalize hzb:w.heap.size=b0 at *;generalize hze:w2.heap.size=eb at *;have nE:∀k,InC F0' Fn' n k→k≠eb∧k≠b0+1:=fun k hk=>(hF k hk).elim (fun h=>by have:=hb k h;omega) fun h=>by omega
 have nI:∀k,InC F0 Fn n k→k≠eb∧k≠b0+1:=fun k h=>by have:=hb k h;omega
 have ye:=hC.blk hE3 fun e=>(nI _ e).1 rfl
 have yb:=hC.blk hB3 fun e=>(nI _ e).2 rfl
 have HS1:Blk w4 eb #[.int .i64 0,.bool false,.int .i64 0,.int .i64 0,.int .i64 0,.int .i64 0,.int .i64 0,.int .u64 0,.int .i64 0,.int .i64 0,.int .u64 0,.int .i64 0,.int .u64 0,.int .u64 0,.int .i64 (-1)] 86∧Chg (fun k=>k=eb) w4 w4:=⟨ye,Chg.refl _ _⟩
 have hQ5:=hQ.chg HS1.2 (fun k hk e=>(nE k (.inl hk)).1 e) (fun i k hi hk e=>(nE k (.inr ⟨i,hi,hk⟩)).1 e)
 have yb5:=HS1.2.blk yb (show ¬b0+1=eb by omega)
 obtain ⟨hQ6,hC6⟩:=hQ5.steps (steps+1)
 have hcb:=nE cb (.inl hQ.own.f0)
 have hcbI:=hF cb (.inl hQ.own.f0)
 have yb6:=hC6.blk yb5 (fun e=>hcb.2 e.symm)
 have ye6:=hC6.blk HS1.1 (fun e=>hcb.1 e.symm)
 obtain ⟨vr,bag,hB5,-,-,-⟩:=hQ5.own.ex
 have HS2:=store_all yb6 [.int .i64 0,.bool false,.int .i64 0,.int .i64 0,.int .i64 0,.int .i64 0,.int .i64 0,.int .u64 0,.int .i64 0,.int .i64 0,.int .u64 0,.int .i64 0,.int .u64 0,.int .u64 0,.int .i64 (-1)] rfl
 have hQ7:=hQ6.chg HS2.2 (fun k hk e=>(nE k (.inl hk)).2 e) (fun i k hi hk e=>(nE k (.inr ⟨i,hi,hk⟩)).2 e)
 have hC7:=(((((hC3.mono (S':=fun k=>InC F0 Fn n k∨b0≤k) fun _ _ e=>e.elim).trans (hC.mono (S':=fun k=>InC F0 Fn n k∨b0≤k) fun _ _ e=>.inl e) fun _ _ e=>e).trans (HS1.2.mono (S':=fun k=>InC F0 Fn n k∨b0≤k) fun k _ e=>.inr (by have:k=eb:=e;omega)) fun _ _ e=>e).trans (hC6.mono (S':=fun k=>InC F0 Fn n k∨b0≤k) fun k _ (e:k=cb)=>e▸hcbI.imp id fun h=>by omega) fun _ _ e=>e).trans (HS2.2.mono (S':=fun k=>InC F0 Fn n k∨b0≤k) fun k _ e=>.inr (by have:k=b0+1:=e;omega)) fun _ _ e=>e).mono (S':=InC F0 Fn n) fun k hk e=>e.elim id fun e=>absurd e (by rw [hzb] at hk;omega)
 have HF:=Lib.hid (And.intro hQ7 (And.intro hP1 (And.intro (show ∀k,InC F0' Fn' n k→InC F0 Fn n k∨b0≤k from fun k hk=>(hF k hk).imp id fun h=>by omega) hC7)))
 have HZb:=Lib.hid hzb
 have hBc:=hB5.cell
 have hBz:=hB5.frozen
 have hBl:=hB5.lt
 obtain ⟨w5,rfl⟩:∃x,x=w4:=⟨_,rfl⟩
 obtain ⟨w6,hw6⟩:∃x,w5.setCell ⟨cb,4,none⟩ (.int .i64 ((steps+1:Nat):Int))=x:=⟨_,rfl⟩
 rw [hw6] at HF HS2 ye6 yb6
 replace hw6:w5.setCell ⟨cb,4,none⟩ (.int .i64 ((steps:Int)+1))=w6:=hw6
 obtain ⟨w8,hw8⟩:∃x,w6.setCells (b0+1) 0 [.int .i64 0,.bool false,.int .i64 0,.int .i64 0,.int .i64 0,.int .i64 0,.int .i64 0,.int .u64 0,.int .i64 0,.int .i64 0,.int .u64 0,.int .i64 0,.int .u64 0,.int .u64 0,.int .i64 (-1)]=x:=⟨_,rfl⟩
 rw [hw8] at HF HS2
 replace hw8:(((((((((((((((w6.setCell ⟨b0+1,0,none⟩ (.int .i64 0)).setCell ⟨b0+1,1,none⟩ (.bool false)).setCell ⟨b0+1,2,none⟩ (.int .i64 0)).setCell ⟨b0+1,3,none⟩ (.int .i64 0)).setCell ⟨b0+1,4,none⟩ (.int .i64 0)).setCell ⟨b0+1,5,none⟩ (.int .i64 0)).setCell ⟨b0+1,6,none⟩ (.int .i64 0)).setCell ⟨b0+1,7,none⟩ (.int .u64 0)).setCell ⟨b0+1,8,none⟩ (.int .i64 0)).setCell ⟨b0+1,9,none⟩ (.int .i64 0)).setCell ⟨b0+1,10,none⟩ (.int .u64 0)).setCell ⟨b0+1,11,none⟩ (.int .i64 0)).setCell ⟨b0+1,12,none⟩ (.int .u64 0)).setCell ⟨b0+1,13,none⟩ (.int .u64 0)).setCell ⟨b0+1,14,none⟩ (.int .i64 (-1)))=w8:=hw8
 have e1:IntKind.i64.wrap ((steps:Int)+1)=(steps:Int)+1:=IntWalk.i64_in _ (by omega)
 have y1:=ye.frozen
 have y2:=ye.lt
 have y3:=ye.cell
 have y4:=ye6.cell
 have y5:=ye6.lt
 have y6:=yb6.cell
 have y7:=yb6.frozen
 have y8:=yb6.lt
 have q:=HS2.1.cell
 have ql:=HS2.1.lt
 clear ye ye6 yb6 yb5 yb HS1 HS2 hQ5 hQ6 hQ7 hC7 hC6 hB5 hQ hC hF hC3 hE3 hB3 hb nE nI hcb hcbI hzb hze zs zb2;go_wp2_with fail;exact bodyPost_ret (v:=.tuple #[.agg #[.int .i64 0,.bool false,.int .i64 0,.int .i64 0,.int .i64 0,.int .i64 0,.int .i64 0,.int .u64 0,.int .i64 0,.int .i64 0,.int .u64 0,.int .i64 0,.int .u64 0,.int .u64 0,.int .i64 (-1)],.bool true]) (by simp [results,Tryz.results49,go_sem,q]) rfl ⟨rfl,⟨tick,steps,bad,fv,nf,fs,ov,no,os⟩,F0',Fn',by rw [HZb.out];exact HF.out⟩
theorem Do_actfalse {w:World} {F0:Nat→Prop} {Fn:Nat→Nat→Prop} {cb n sh:Nat} {nb:Nat→Nat} {y':Nat→Nst} (P:Cst→Prop) (hP:∀x,P x→x.steps<1099511627776∧x.bad<1099511627776) (hb:∀k,InC F0 Fn n k→k<w.heap.size) (kind:Int) (hk:kind≠0) (a b:Int)
  (hR:∀w',Chg NoB w w'→Calls Tryz.prog 79 #[.pointer (some ⟨cb,0,none⟩),.agg #[.int .i64 kind,.int .i64 a,.int .i64 b]] w' (RetW (.bool false) fun w''=>∃x1 F0' Fn',QC w'' F0' Fn' cb n sh nb x1 y'∧P x1∧(∀k,InC F0' Fn' n k→InC F0 Fn n k∨w'.heap.size≤k)∧Chg (InC F0 Fn n) w' w'')) :
  Calls Tryz.prog 49 #[.pointer (some ⟨cb,0,none⟩),.agg #[.int .i64 kind,.int .i64 a,.int .i64 b]] w (RetW (.tuple #[.agg #[.int .i64 0,.bool false,.int .i64 0,.int .i64 0,.int .i64 0,.int .i64 0,.int .i64 0,.int .u64 0,.int .i64 0,.int .i64 0,.int .u64 0,.int .i64 0,.int .u64 0,.int .u64 0,.int .i64 (-1)],.bool false]) fun w''=>∃x1 F0' Fn',QC w'' F0' Fn' cb n sh nb { x1 with steps:=x1.steps+1,bad:=x1.bad+1} y'∧P x1∧(∀k,InC F0' Fn' n k→InC F0 Fn n k∨w.heap.size≤k)∧Chg (InC F0 Fn n) w w''):=by
 have HP:=Lib.hid hP
 have t1:(kind == 0)=false:=by simpa using hk
 have t2:decide (kind=0)=false:=decide_eq_false hk
 have Hb:=Lib.hid hb
 have HR:=Lib.hid hR
 clear hP hb hR;have c0:=((Chg.refl NoB w).alloc (.cells #[.int .i64 kind,.int .i64 a,.int .i64 b] 57)).alloc (.cells #[.int .i64 0,.bool false,.int .i64 0,.int .i64 0,.int .i64 0,.int .i64 0,.int .i64 0,.int .u64 0,.int .i64 0,.int .i64 0,.int .u64 0,.int .i64 0,.int .u64 0,.int .u64 0,.int .i64 0] 86)
 have HC0:=Lib.hid c0
 have HA0:=Lib.hid ((Blk.new w #[.int .i64 kind,.int .i64 a,.int .i64 b] 57).alloc (.cells #[.int .i64 0,.bool false,.int .i64 0,.int .i64 0,.int .i64 0,.int .i64 0,.int .i64 0,.int .u64 0,.int .i64 0,.int .i64 0,.int .u64 0,.int .i64 0,.int .u64 0,.int .u64 0,.int .i64 0] 86))
 have hB0:=Blk.new (w.alloc (.cells #[.int .i64 kind,.int .i64 a,.int .i64 b] 57)) #[.int .i64 0,.bool false,.int .i64 0,.int .i64 0,.int .i64 0,.int .i64 0,.int .i64 0,.int .u64 0,.int .i64 0,.int .i64 0,.int .u64 0,.int .i64 0,.int .u64 0,.int .u64 0,.int .i64 0] 86
 rw [World.size_alloc] at hB0
 have HB0:=Lib.hid hB0
 clear hB0;clear c0;go_enter Tryz.func49,Tryz.ntmps49;have HI:=Lib.hid (idle_any ((w.alloc (.cells #[.int .i64 kind,.int .i64 a,.int .i64 b] 57)).alloc (.cells #[.int .i64 0,.bool false,.int .i64 0,.int .i64 0,.int .i64 0,.int .i64 0,.int .i64 0,.int .u64 0,.int .i64 0,.int .i64 0,.int .u64 0,.int .i64 0,.int .u64 0,.int .u64 0,.int .i64 0] 86)))
 go_wp2_with fail;with_reducible refine HI.out.mono ?_
 rintro e w2 ⟨rfl,hC2⟩;have HC2:=Lib.hid (HC0.out.trans hC2 fun _ _ e=>e.elim)
 have HA2:=Lib.hid (hC2.blk0 HA0.out)
 have HB2:=Lib.hid (hC2.blk0 HB0.out)
 clear hC2 HC0 HA0 HB0 HI;have c3:=(Chg.refl NoB w2).alloc (.cells #[.int .i64 0,.bool false,.int .i64 0,.int .i64 0,.int .i64 0,.int .i64 0,.int .i64 0,.int .u64 0,.int .i64 0,.int .i64 0,.int .u64 0,.int .i64 0,.int .u64 0,.int .u64 0,.int .i64 (-1)] 86)
 have HC3:=Lib.hid (HC2.out.trans c3 fun _ _ e=>e.elim)
 have HA3:=Lib.hid (c3.blk0 HA2.out)
 have HB3:=Lib.hid (c3.blk0 HB2.out)
 have HE3:=Lib.hid (Blk.new w2 #[.int .i64 0,.bool false,.int .i64 0,.int .i64 0,.int .i64 0,.int .i64 0,.int .i64 0,.int .u64 0,.int .i64 0,.int .i64 0,.int .u64 0,.int .i64 0,.int .u64 0,.int .u64 0,.int .i64 (-1)] 86)
 have HR3:=Lib.hid (HR.out _ HC3.out)
 have f:=HA3.out.cell
 have fl:=HA3.out.lt
 clear c3;go_wp2_with fail;with_reducible refine HR3.out.mono ?_
 rintro e w4 ⟨rfl,x1,F0',Fn',hQ,hP1,hF,hC⟩;obtain ⟨tick,steps,bad,fv,nf,fs,ov,no,os⟩:=x1
 obtain ⟨q1,q2⟩:=HP.out _ hP1
 replace q1:steps<1099511627776:=q1
 replace q2:bad<1099511627776:=q2
 have zs:=HC2.out.size
 have zb2:=HB2.out.lt
 rw [World.size_alloc] at hF
 have hC3:=HC3.out
 have hE3:=HE3.out
 have hB3:=HB3.out
 have hb:=Hb.out
 clear HR3 HC2 HA2 HB2 HC3 HA3 HB3 HE3 f fl HR Hb;generalize hzb:w.heap.size=b0 at *;generalize hze:w2.heap.size=eb at *;have nE:∀k,InC F0' Fn' n k→k≠eb∧k≠b0+1:=fun k hk=>(hF k hk).elim (fun h=>by have:=hb k h;omega) fun h=>by omega
 have nI:∀k,InC F0 Fn n k→k≠eb∧k≠b0+1:=fun k h=>by have:=hb k h;omega
 have ye:=hC.blk hE3 fun e=>(nI _ e).1 rfl
 have yb:=hC.blk hB3 fun e=>(nI _ e).2 rfl
 have HS1:Blk w4 eb #[.int .i64 0,.bool false,.int .i64 0,.int .i64 0,.int .i64 0,.int .i64 0,.int .i64 0,.int .u64 0,.int .i64 0,.int .i64 0,.int .u64 0,.int .i64 0,.int .u64 0,.int .u64 0,.int .i64 (-1)] 86∧Chg (fun k=>k=eb) w4 w4:=⟨ye,Chg.refl _ _⟩
 have hQ5:=hQ.chg HS1.2 (fun k hk e=>(nE k (.inl hk)).1 e) (fun i k hi hk e=>(nE k (.inr ⟨i,hi,hk⟩)).1 e)
 have yb5:=HS1.2.blk yb (show ¬b0+1=eb by omega)
 obtain ⟨hQ6,hC6⟩:=hQ5.steps (steps+1)
 have hcb:=nE cb (.inl hQ.own.f0)
 have hcbI:=hF cb (.inl hQ.own.f0)
 have yb6:=hC6.blk yb5 (fun e=>hcb.2 e.symm)
 have ye6:=hC6.blk HS1.1 (fun e=>hcb.1 e.symm)
 obtain ⟨vr,bag,hB5,-,-,-⟩:=hQ5.own.ex
 obtain ⟨vr2,bag2,hB6,-,-,-⟩:=hQ6.own.ex
 have hc6:=hB6.cell
 have hz6:=hB6.frozen
 have hl6:=hB6.lt
 clear hB6;obtain ⟨hQ6,hC6b⟩:=hQ6.bad (bad+1)
 have yb6:=hC6b.blk yb6 (fun e=>hcb.2 e.symm)
 have ye6:=hC6b.blk ye6 (fun e=>hcb.1 e.symm)
 have HS2:=store_all yb6 [.int .i64 0,.bool false,.int .i64 0,.int .i64 0,.int .i64 0,.int .i64 0,.int .i64 0,.int .u64 0,.int .i64 0,.int .i64 0,.int .u64 0,.int .i64 0,.int .u64 0,.int .u64 0,.int .i64 (-1)] rfl
 have hQ7:=hQ6.chg HS2.2 (fun k hk e=>(nE k (.inl hk)).2 e) (fun i k hi hk e=>(nE k (.inr ⟨i,hi,hk⟩)).2 e)
 have hC7:=((((((hC3.mono (S':=fun k=>InC F0 Fn n k∨b0≤k) fun _ _ e=>e.elim).trans (hC.mono (S':=fun k=>InC F0 Fn n k∨b0≤k) fun _ _ e=>.inl e) fun _ _ e=>e).trans (HS1.2.mono (S':=fun k=>InC F0 Fn n k∨b0≤k) fun k _ e=>.inr (by have:k=eb:=e;omega)) fun _ _ e=>e).trans (hC6.mono (S':=fun k=>InC F0 Fn n k∨b0≤k) fun k _ (e:k=cb)=>e▸hcbI.imp id fun h=>by omega) fun _ _ e=>e).trans (hC6b.mono (S':=fun k=>InC F0 Fn n k∨b0≤k) fun k _ (e:k=cb)=>e▸hcbI.imp id fun h=>by omega) fun _ _ e=>e).trans (HS2.2.mono (S':=fun k=>InC F0 Fn n k∨b0≤k) fun k _ e=>.inr (by have:k=b0+1:=e;omega)) fun _ _ e=>e).mono (S':=InC F0 Fn n) fun k hk e=>e.elim id fun e=>absurd e (by rw [hzb] at hk;omega)
 have HF:=Lib.hid (And.intro hQ7 (And.intro hP1 (And.intro (show ∀k,InC F0' Fn' n k→InC F0 Fn n k∨b0≤k from fun k hk=>(hF k hk).imp id fun h=>by omega) hC7)))
 have HZb:=Lib.hid hzb
 have hBc:=hB5.cell
 have hBz:=hB5.frozen
 have hBl:=hB5.lt
 obtain ⟨w5,rfl⟩:∃x,x=w4:=⟨_,rfl⟩
 obtain ⟨w6,hw6⟩:∃x,w5.setCell ⟨cb,4,none⟩ (.int .i64 ((steps+1:Nat):Int))=x:=⟨_,rfl⟩
 rw [hw6] at HF HS2 ye6 yb6 hc6 hz6 hl6
 replace hw6:w5.setCell ⟨cb,4,none⟩ (.int .i64 ((steps:Int)+1))=w6:=hw6
 obtain ⟨w7,hw7⟩:∃x,w6.setCell ⟨cb,5,none⟩ (.int .i64 ((bad+1:Nat):Int))=x:=⟨_,rfl⟩
 rw [hw7] at HF HS2 ye6 yb6
 replace hw7:w6.setCell ⟨cb,5,none⟩ (.int .i64 ((bad:Int)+1))=w7:=hw7
 have e2:IntKind.i64.wrap ((bad:Int)+1)=(bad:Int)+1:=IntWalk.i64_in _ (by omega)
 obtain ⟨w8,hw8⟩:∃x,w7.setCells (b0+1) 0 [.int .i64 0,.bool false,.int .i64 0,.int .i64 0,.int .i64 0,.int .i64 0,.int .i64 0,.int .u64 0,.int .i64 0,.int .i64 0,.int .u64 0,.int .i64 0,.int .u64 0,.int .u64 0,.int .i64 (-1)]=x:=⟨_,rfl⟩
 rw [hw8] at HF HS2
 replace hw8:(((((((((((((((w7.setCell ⟨b0+1,0,none⟩ (.int .i64 0)).setCell ⟨b0+1,1,none⟩ (.bool false)).setCell ⟨b0+1,2,none⟩ (.int .i64 0)).setCell ⟨b0+1,3,none⟩ (.int .i64 0)).setCell ⟨b0+1,4,none⟩ (.int .i64 0)).setCell ⟨b0+1,5,none⟩ (.int .i64 0)).setCell ⟨b0+1,6,none⟩ (.int .i64 0)).setCell ⟨b0+1,7,none⟩ (.int .u64 0)).setCell ⟨b0+1,8,none⟩ (.int .i64 0)).setCell ⟨b0+1,9,none⟩ (.int .i64 0)).setCell ⟨b0+1,10,none⟩ (.int .u64 0)).setCell ⟨b0+1,11,none⟩ (.int .i64 0)).setCell ⟨b0+1,12,none⟩ (.int .u64 0)).setCell ⟨b0+1,13,none⟩ (.int .u64 0)).setCell ⟨b0+1,14,none⟩ (.int .i64 (-1)))=w8:=hw8
 have e1:IntKind.i64.wrap ((steps:Int)+1)=(steps:Int)+1:=IntWalk.i64_in _ (by omega)
 have y1:=ye.frozen
 have y2:=ye.lt
 have y3:=ye.cell
 have y4:=ye6.cell
 have y5:=ye6.lt
 have y6:=yb6.cell
 have y7:=yb6.frozen
 have y8:=yb6.lt
 have q:=HS2.1.cell
 have ql:=HS2.1.lt
 clear ye ye6 yb6 yb5 yb HS1 HS2 hQ5 hQ6 hQ7 hC7 hC6 hB5 hQ hC hF hC3 hE3 hB3 hb nE nI hcb hcbI hzb hze zs zb2;go_wp2_with fail;exact bodyPost_ret (v:=.tuple #[.agg #[.int .i64 0,.bool false,.int .i64 0,.int .i64 0,.int .i64 0,.int .i64 0,.int .i64 0,.int .u64 0,.int .i64 0,.int .i64 0,.int .u64 0,.int .i64 0,.int .u64 0,.int .u64 0,.int .i64 (-1)],.bool false]) (by simp [results,Tryz.results49,go_sem,q]) rfl ⟨rfl,⟨tick,steps,bad,fv,nf,fs,ov,no,os⟩,F0',Fn',by rw [HZb.out];exact HF.out⟩
end Go.Proofs.YtjhnnjgnkkjmkaaGreatDoor
