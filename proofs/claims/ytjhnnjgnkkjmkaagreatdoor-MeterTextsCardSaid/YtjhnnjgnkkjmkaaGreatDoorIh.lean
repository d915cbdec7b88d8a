/- Clusters that run: a turn that is done; the order and the facts. No condition. -/
import Derived.Test.YtjhnnjgnkkjmkaaGreatDoorIg
set_option maxHeartbeats 2000000
set_option maxRecDepth 100000
set_option linter.unusedVariables false
set_option linter.unusedSimpArgs false
namespace Go.Proofs.YtjhnnjgnkkjmkaaGreatDoor
open Go.RowKit Go.RR
theorem QC.grow {w w6:World} {F0 F0':Nat→Prop} {Fn:Nat→Nat→Prop} {cb n sh:Nat} {nb:Nat→Nat} {x x':Cst} {y:Nat→Nst} (h:QC w F0 Fn cb n sh nb x y) (ho:COwn w6 F0' cb n sh nb x') (hF:∀k,F0' k→F0 k∨w.heap.size≤k) (c:Chg F0 w w6):QC w6 F0' Fn cb n sh nb x' y:=
 ⟨ho,fun i hi=>(h.nd i hi).chg c fun k hk e=>h.d0 i k hi hk e,fun i k hi hk e=>(hF k e).elim (fun e=>h.d0 i k hi hk e) fun e=>by have:=(h.nd i hi).bd k hk;omega,h.dj⟩
theorem FACTi:(Tryz.prog.info? 71).map (fun i=>(i.zero,i.size,i.bytes))=some (some (.agg #[.int .i64 0,.int .i64 0,.int .i64 0,.bool false,.int .i64 0,.int .i64 0,.int .i64 0,.int .i64 0,.int .i64 0,.int .u64 0,.int .i64 0,.int .i64 0,.int .u64 0,.int .i64 0,.int .u64 0,.int .u64 0]),16,128):=by kernel_rfl
theorem crun_ran {w:World} {F0:Nat→Prop} {Fn:Nat→Nat→Prop} {cb n sh:Nat} {nb:Nat→Nat} {x:Cst} {y:Nat→Nst} (h:QC w F0 Fn cb n sh nb x y) (hn:n≤16) (ht:x.tick≤1099511627776) (hno:x.no≤1000000) (i:Nat) (hi:i<n) (pick:Int) (z:Nst) (done:Bool) (op rd rs rt im:Int) (pc:Int) (cause access:Int) (addr:Int) (size:Int)(old new ev:Int) (hev:ev<0)
  (hT:∀w',RNAt w' (Fn i) (nb i) i n (y i).page (y i).s (y i).c (y i).ps→Calls Tryz.prog 99 #[.pointer (some ⟨nb i,0,none⟩),.int .i64 pick] w' (RetW (.agg #[.int .i64 2,.bool done,.int .i64 op,.int .i64 rd,.int .i64 rs,.int .i64 rt,.int .i64 im,.int .u64 pc,.int .i64 cause,.int .i64 access,.int .u64 addr,.int .i64 size,.int .u64 old,.int .u64 new,.int .i64 ev]) fun w''=>∃F',RNAt w'' F' (nb i) i n z.page z.s z.c z.ps∧(∀k,F' k→Fn i k∨w'.heap.size≤k)∧Chg (Fn i) w' w'')) :
  Calls Tryz.prog 78 #[.pointer (some ⟨cb,0,none⟩),.int .i64 i,.int .i64 pick] w (RetW (.tuple #[.agg #[.int .i64 2,.bool done,.int .i64 op,.int .i64 rd,.int .i64 rs,.int .i64 rt,.int .i64 im,.int .u64 pc,.int .i64 cause,.int .i64 access,.int .u64 addr,.int .i64 size,.int .u64 old,.int .u64 new,.int .i64 ev],.bool true]) fun w'=>∃x' F0' Fn',QC w' F0' Fn' cb n sh nb x' (updN y i z)∧x' = { x with ov:=x'.ov,no:=x.no+1,os:=x.os ++ [.int .i64 i]}∧(∀k,InC F0' Fn' n k→InC F0 Fn n k∨w.heap.size≤k)∧Chg (InC F0 Fn n) w w'):=by
 have t1:decide (0≤ev)=false:=decide_eq_false (by omega)
 obtain ⟨tick,steps,bad,fv,nf,fs,ov,no,os⟩:=x
 obtain ⟨v,bag,hB,-,-,-⟩:=h.own.ex
 have c0:=(Chg.refl NoB w).alloc (.cells #[.int .i64 0,.bool false,.int .i64 0,.int .i64 0,.int .i64 0,.int .i64 0,.int .i64 0,.int .u64 0,.int .i64 0,.int .i64 0,.int .u64 0,.int .i64 0,.int .u64 0,.int .u64 0,.int .i64 0] 86)
 have HB0:=Lib.hid (Blk.new w #[.int .i64 0,.bool false,.int .i64 0,.int .i64 0,.int .i64 0,.int .i64 0,.int .i64 0,.int .u64 0,.int .i64 0,.int .i64 0,.int .u64 0,.int .i64 0,.int .u64 0,.int .u64 0,.int .i64 0] 86)
 have HC:=Lib.hid c0
 have HN:=Lib.hid (qNode_in (h.own.chg0 c0) i hi)
 have HR:=Lib.hid (hT _ ((h.nd i hi).chg0 c0))
 have HH:=Lib.hid (And.intro h hn)
 have HTk:=Lib.hid ht
 clear h c0 hT hB ht;go_enter Tryz.func78,Tryz.ntmps78;go_wp2_with fail;with_reducible refine HN.out.mono ?_
 rintro e w2 ⟨rfl,rfl⟩;go_wp2_with fail;with_reducible refine HR.out.mono ?_
 rintro e w3 ⟨rfl,F',hR3,hF3,hC3⟩;have hb3:=hC3.blk HB0.out fun e=>absurd ((HH.out.1.nd i hi).bd _ e) (Nat.lt_irrefl _)
 have HQ3:=Lib.hid (QC.node (HH.out.1.chg0 HC.out) hi hR3 hF3 hC3)
 have HF3:=Lib.hid hF3
 have HC3:=Lib.hid hC3
 have HZ3:=Lib.hid hC3.size
 clear hR3 hF3 hC3;have c4:=(Chg.refl NoB w3).alloc (.cells #[.int .i64 2,.bool done,.int .i64 op,.int .i64 rd,.int .i64 rs,.int .i64 rt,.int .i64 im,.int .u64 pc,.int .i64 cause,.int .i64 access,.int .u64 addr,.int .i64 size,.int .u64 old,.int .u64 new,.int .i64 ev] 86)
 have HQ4:=Lib.hid (HQ3.out.chg0 c4)
 have HB4:=Lib.hid (Blk.new w3 #[.int .i64 2,.bool done,.int .i64 op,.int .i64 rd,.int .i64 rs,.int .i64 rt,.int .i64 im,.int .u64 pc,.int .i64 cause,.int .i64 access,.int .u64 addr,.int .i64 size,.int .u64 old,.int .u64 new,.int .i64 ev] 86)
 have HC4:Hid (Chg (InC F0 Fn n) w (w3.alloc (.cells #[.int .i64 2,.bool done,.int .i64 op,.int .i64 rd,.int .i64 rs,.int .i64 rt,.int .i64 im,.int .u64 pc,.int .i64 cause,.int .i64 access,.int .u64 addr,.int .i64 size,.int .u64 old,.int .u64 new,.int .i64 ev] 86))):=Lib.hid ((HC.out.mono (fun _ _ e=>e.elim)).trans ((HC3.out.mono (S':=InC F0 Fn n) fun k _ e=>.inr ⟨i,hi,e⟩).trans c4 fun _ _ e=>e.elim) fun k _ e=>e)
 have HF4:Hid (∀k,InC F0 (updN Fn i F') n k→InC F0 Fn n k∨w.heap.size≤k):=Lib.hid (inC_upd hi HF3.out (by rw [World.size_alloc];omega))
 have HE4:=Lib.hid (c4.blk0 hb3)
 have HOut:Hid (¬InC F0 (updN Fn i F') n w.heap.size):=Lib.hid (out_upd (fun k hk=>hk.elim (fun e=>HH.out.1.own.bd k e) fun ⟨j,hj,e⟩=>(HH.out.1.nd j hj).bd k e) HF3.out (by rw [World.size_alloc];omega) hi)
 have HN4:Hid (¬F0 w3.heap.size):=Lib.hid fun e=>absurd (HQ3.out.own.bd _ e) (Nat.lt_irrefl _)
 obtain ⟨w4,hw4⟩:∃x,w3.alloc (.cells #[.int .i64 2,.bool done,.int .i64 op,.int .i64 rd,.int .i64 rs,.int .i64 rt,.int .i64 im,.int .u64 pc,.int .i64 cause,.int .i64 access,.int .u64 addr,.int .i64 size,.int .u64 old,.int .u64 new,.int .i64 ev] 86)=x:=⟨_,rfl⟩
 rw [hw4] at HQ4 HB4 HE4 HC4
 clear c4;have HE5:=HB4.out.ever
 have HE5l:=HB4.out.everL
 obtain ⟨vr,bag,hB,-,-,-⟩:=HQ4.out.own.ex
 have g:=hB.cell
 have gl:=hB.lt
 have g1:=HB4.out.cell
 have g1l:=HB4.out.lt
 clear hB;have oX:=Lib.hid (HQ4.out.own.oo.chg0 ((Chg.refl NoB w4).alloc (.cells #[.int .i64 i] 3)))
 have sX:=Lib.hid (Sl.fresh w4 [.int .i64 i] 3 1 (size:=1) rfl)
 have HAdd:Hid (∀v' w5,Own w5 (fun k=>ov.ownBlock=some k∨k=(w4.alloc (.cells #[.int .i64 i] 3)).heap.size) 3 1 v' (no+1) (os ++ [.int .i64 i])→(w4.alloc (.cells #[.int .i64 i] 3)).grownBy w5 ov.ownBlock→
   (∃cs:Array Value,Blk w5 cb cs 78∧cs[7]? = some ov)∧∃F0'':Nat→Prop,QC (w5.setCell ⟨cb,7,none⟩ v') F0'' (updN Fn i F') cb n sh nb ⟨tick,steps,bad,fv,nf,fs,v',no+1,os ++ [.int .i64 i]⟩ (updN y i z)∧Blk (w5.setCell ⟨cb,7,none⟩ v') w3.heap.size #[.int .i64 2,.bool done,.int .i64 op,.int .i64 rd,.int .i64 rs,.int .i64 rt,.int .i64 im,.int .u64 pc,.int .i64 cause,.int .i64 access,.int .u64 addr,.int .i64 size,.int .u64 old,.int .u64 new,.int .i64 ev] 86∧Blk (w5.setCell ⟨cb,7,none⟩ v') w.heap.size #[.int .i64 0,.bool false,.int .i64 0,.int .i64 0,.int .i64 0,.int .i64 0,.int .i64 0,.int .u64 0,.int .i64 0,.int .i64 0,.int .u64 0,.int .i64 0,.int .u64 0,.int .u64 0,.int .i64 0] 86∧(∀k,InC F0'' (updN Fn i F') n k→InC F0 Fn n k∨w.heap.size≤k)∧Chg (InC F0 Fn n) w (w5.setCell ⟨cb,7,none⟩ v')∧¬InC F0'' (updN Fn i F') n w.heap.size∧¬F0'' w3.heap.size):=Lib.hid (fun v' w5 ho hg=>by
  obtain ⟨r1,r2,r3⟩:=COwn.order HQ4.out.own [.int .i64 i] ho hg
  have z1:w.heap.size<w4.heap.size:=HE4.out.lt
  have z2:w3.heap.size<w4.heap.size:=HB4.out.lt
  refine ⟨r1,_,HQ4.out.grow r2 (fun k hk=>hk.imp id fun h=>h.1) r3,r3.blk HB4.out HN4.out,r3.blk HE4.out fun e=>HOut.out (.inl e),fun k hk=>hk.elim (fun e=>e.elim (fun e=>HF4.out k (.inl e)) fun e=>.inr (by omega)) fun e=>HF4.out k (.inr e),((HC4.out.mono (S':=fun k=>InC F0 Fn n k∨w.heap.size≤k) fun _ _ e=>.inl e).trans (r3.mono (S':=fun k=>InC F0 Fn n k∨w.heap.size≤k) fun k _ e=>HF4.out k (.inl e)) fun _ _ e=>e).mono fun k hk e=>e.elim id fun e=>absurd e (Nat.not_le_of_lt hk),?_,?_⟩
  ·rintro ((e | e) | e)
   ·exact HOut.out (.inl e)
   ·omega
   ·exact HOut.out (.inr e)
  ·rintro (e | e)
   ·exact HN4.out e
   ·omega)
 have one:∀u∈([.int .i64 i]:List Value),u.oneCell'=true:=by simp [Value.oneCell']
 have b1:no+1≤maxLen:=by unfold maxLen;omega
 have b2:(no+1)*8≤140737488355328:=by omega
 obtain ⟨i0,hi0,hz0,hz1,hz2⟩:=info_parts INTi
 go_wp2_with (at_builtin;go_must (refine wpList_app rfl _ _ 30 rfl i0 _ 8 Tryz.underlying30 hi0 hz0 hz1 hz2 rfl rfl oX.out _ 1 _ rfl sX.out one b1 b2 ?_))
 intro v' w5 ho5 hg5 hn5;obtain ⟨yp,yc,hy⟩:=ho5.form
 subst hy;obtain ⟨⟨cs,hcs,hcv⟩,F0'',r1,r2,r3,r4,r5,r6,r7⟩   :=HAdd.out (.slice yp (no+1) yc) w5 (by first | exact ho5 | (rw [World.size_alloc];exact ho5)) hg5
 have k0:=hcs.cell' (i:=7) (v:=ov) hcv
 have kz:=hcs.frozen 7
 have kl:=hcs.lt
 clear oX sX HAdd HQ4 HB4 HE4 HF4 HC4 HOut HN4 hi0 hz0 hz1 hz2 one b1 b2 ho5 hg5 hn5 hcs hcv i0;obtain ⟨w6,hw6⟩:∃x,w5.setCell ⟨cb,7,none⟩ (.slice yp (no+1) yc)=x:=⟨_,rfl⟩
 rw [hw6] at r1 r2 r3 r5
 have HQ4:=Lib.hid r1
 have HB4:=Lib.hid r2
 have HE4:=Lib.hid r3
 have HF4:=Lib.hid r4
 have HC4:=Lib.hid r5
 have HOut:=Lib.hid r6
 have HN4:=Lib.hid r7
 clear r1 r2 r3 r4 r5 r6 r7;obtain ⟨vr,bag,hB,-,-,-⟩:=HQ4.out.own.ex
 have g:=hB.cell
 have gl:=hB.lt
 have g1:=HB4.out.cell
 have g1l:=HB4.out.lt
 clear hB;have HM:=Lib.hid (mail_quiet HQ4.out hn HTk.out i hi)
 clear g gl;go_wp2_with fail;with_reducible refine HM.out.mono ?_
 rintro e w5 ⟨rfl,hC5⟩;have b5:=hC5.blk0 HB4.out
 have k5:=b5.cell
 have l5:=b5.lt
 have y3:=hC5.blk0 HE4.out
 have HSA:=store_all y3 [.int .i64 2,.bool done,.int .i64 op,.int .i64 rd,.int .i64 rs,.int .i64 rt,.int .i64 im,.int .u64 pc,.int .i64 cause,.int .i64 access,.int .u64 addr,.int .i64 size,.int .u64 old,.int .u64 new,.int .i64 ev] rfl
 have HF:Hid (QC (w5.setCells w.heap.size 0 [.int .i64 2,.bool done,.int .i64 op,.int .i64 rd,.int .i64 rs,.int .i64 rt,.int .i64 im,.int .u64 pc,.int .i64 cause,.int .i64 access,.int .u64 addr,.int .i64 size,.int .u64 old,.int .u64 new,.int .i64 ev]) F0'' (updN Fn i F') cb n sh nb _ (updN y i z)∧(∀k,InC F0'' (updN Fn i F') n k→InC F0 Fn n k∨w.heap.size≤k)∧Chg (InC F0 Fn n) w (w5.setCells w.heap.size 0 [.int .i64 2,.bool done,.int .i64 op,.int .i64 rd,.int .i64 rs,.int .i64 rt,.int .i64 im,.int .u64 pc,.int .i64 cause,.int .i64 access,.int .u64 addr,.int .i64 size,.int .u64 old,.int .u64 new,.int .i64 ev])):=Lib.hid ⟨(HQ4.out.chg0 hC5).chg HSA.2 (fun k hk (e:k=w.heap.size)=>HOut.out (.inl (e▸hk))) (fun j k hj hk (e:k=w.heap.size)=>HOut.out (.inr ⟨j,hj,e▸hk⟩)),HF4.out,((HC4.out.trans hC5 fun _ _ e=>e.elim).mono (S':=fun k=>InC F0 Fn n k∨w.heap.size≤k) fun _ _ e=>.inl e).trans (HSA.2.mono (S':=fun k=>InC F0 Fn n k∨w.heap.size≤k) fun k _ e=>.inr (Nat.le_of_eq e.symm)) (fun k hk e=>e) |>.mono fun k hk e=>e.elim id fun e=>absurd e (Nat.not_le_of_lt hk)⟩
 clear HOut;generalize hzb:w.heap.size=b0 at *;have HZb:=Lib.hid hzb
 clear hzb;obtain ⟨w6,hw6⟩:∃x,w5.setCells b0 0 [.int .i64 2,.bool done,.int .i64 op,.int .i64 rd,.int .i64 rs,.int .i64 rt,.int .i64 im,.int .u64 pc,.int .i64 cause,.int .i64 access,.int .u64 addr,.int .i64 size,.int .u64 old,.int .u64 new,.int .i64 ev]=x:=⟨_,rfl⟩
 rw [hw6] at HF HSA
 replace hw6:(((((((((((((((w5.setCell ⟨b0,0,none⟩ (.int .i64 2)).setCell ⟨b0,1,none⟩ (.bool done)).setCell ⟨b0,2,none⟩ (.int .i64 op)).setCell ⟨b0,3,none⟩ (.int .i64 rd)).setCell ⟨b0,4,none⟩ (.int .i64 rs)).setCell ⟨b0,5,none⟩ (.int .i64 rt)).setCell ⟨b0,6,none⟩ (.int .i64 im)).setCell ⟨b0,7,none⟩ (.int .u64 pc)).setCell ⟨b0,8,none⟩ (.int .i64 cause)).setCell ⟨b0,9,none⟩ (.int .i64 access)).setCell ⟨b0,10,none⟩ (.int .u64 addr)).setCell ⟨b0,11,none⟩ (.int .i64 size)).setCell ⟨b0,12,none⟩ (.int .u64 old)).setCell ⟨b0,13,none⟩ (.int .u64 new)).setCell ⟨b0,14,none⟩ (.int .i64 ev))=w6:=hw6
 have k:=y3.cell
 have kz:=y3.frozen
 have kl:=y3.lt
 have q:=HSA.1.cell
 have ql:=HSA.1.lt
 clear y3 HSA hC5 b5 HE4;go_wp2_with fail;exact bodyPost_ret (v:=.tuple #[.agg #[.int .i64 2,.bool done,.int .i64 op,.int .i64 rd,.int .i64 rs,.int .i64 rt,.int .i64 im,.int .u64 pc,.int .i64 cause,.int .i64 access,.int .u64 addr,.int .i64 size,.int .u64 old,.int .u64 new,.int .i64 ev],.bool true]) (by simp [results,Tryz.results78,go_sem,q]) rfl ⟨rfl,_,F0'',updN Fn i F',by rw [HZb.out];exact ⟨HF.out.1,rfl,HF.out.2⟩⟩
theorem crun_fact {w:World} {F0:Nat→Prop} {Fn:Nat→Nat→Prop} {cb n sh:Nat} {nb:Nat→Nat} {x:Cst} {y:Nat→Nst} (h:QC w F0 Fn cb n sh nb x y) (hn:n≤16) (ht:x.tick≤1099511627776) (hno:x.no≤1000000) (hnf:x.nf≤1000000) (i:Nat) (hi:i<n) (pick:Int) (z:Nst)  (done:Bool) (op rd rs rt im:Int) (pc:Int) (cause access:Int) (addr:Int) (size:Int)(old new ev:Int) (hev:0≤ev)
  (hT:∀w',RNAt w' (Fn i) (nb i) i n (y i).page (y i).s (y i).c (y i).ps→Calls Tryz.prog 99 #[.pointer (some ⟨nb i,0,none⟩),.int .i64 pick] w' (RetW (.agg #[.int .i64 2,.bool done,.int .i64 op,.int .i64 rd,.int .i64 rs,.int .i64 rt,.int .i64 im,.int .u64 pc,.int .i64 cause,.int .i64 access,.int .u64 addr,.int .i64 size,.int .u64 old,.int .u64 new,.int .i64 ev]) fun w''=>∃F',RNAt w'' F' (nb i) i n z.page z.s z.c z.ps∧(∀k,F' k→Fn i k∨w'.heap.size≤k)∧Chg (Fn i) w' w'')) :
  Calls Tryz.prog 78 #[.pointer (some ⟨cb,0,none⟩),.int .i64 i,.int .i64 pick] w (RetW (.tuple #[.agg #[.int .i64 2,.bool done,.int .i64 op,.int .i64 rd,.int .i64 rs,.int .i64 rt,.int .i64 im,.int .u64 pc,.int .i64 cause,.int .i64 access,.int .u64 addr,.int .i64 size,.int .u64 old,.int .u64 new,.int .i64 ev],.bool true]) fun w'=>∃x' F0' Fn',QC w' F0' Fn' cb n sh nb x' (updN y i z)∧x' = { x with fv:=x'.fv,nf:=x.nf+1,fs:=x.fs ++ [.int .i64 x.steps,.int .i64 i,.int .i64 ev,.bool done,.int .i64 op,.int .i64 rd,.int .i64 rs,.int .i64 rt,.int .i64 im,.int .u64 pc,.int .i64 cause,.int .i64 access,.int .u64 addr,.int .i64 size,.int .u64 old,.int .u64 new],ov:=x'.ov,no:=x.no+1,os:=x.os ++ [.int .i64 i]}∧(∀k,InC F0' Fn' n k→InC F0 Fn n k∨w.heap.size≤k)∧Chg (InC F0 Fn n) w w'):=by
 have t1:decide (0≤ev)=true:=decide_eq_true hev
 obtain ⟨tick,steps,bad,fv,nf,fs,ov,no,os⟩:=x
 obtain ⟨v,bag,hB,-,-,-⟩:=h.own.ex
 have c0:=(Chg.refl NoB w).alloc (.cells #[.int .i64 0,.bool false,.int .i64 0,.int .i64 0,.int .i64 0,.int .i64 0,.int .i64 0,.int .u64 0,.int .i64 0,.int .i64 0,.int .u64 0,.int .i64 0,.int .u64 0,.int .u64 0,.int .i64 0] 86)
 have HB0:=Lib.hid (Blk.new w #[.int .i64 0,.bool false,.int .i64 0,.int .i64 0,.int .i64 0,.int .i64 0,.int .i64 0,.int .u64 0,.int .i64 0,.int .i64 0,.int .u64 0,.int .i64 0,.int .u64 0,.int .u64 0,.int .i64 0] 86)
 have HC:=Lib.hid c0
 have HN:=Lib.hid (qNode_in (h.own.chg0 c0) i hi)
 have HR:=Lib.hid (hT _ ((h.nd i hi).chg0 c0))
 have HH:=Lib.hid (And.intro h hn)
 have HTk:=Lib.hid ht
 clear h c0 hT hB ht;go_enter Tryz.func78,Tryz.ntmps78;go_wp2_with fail;with_reducible refine HN.out.mono ?_
 rintro e w2 ⟨rfl,rfl⟩;go_wp2_with fail;with_reducible refine HR.out.mono ?_
 rintro e w3 ⟨rfl,F',hR3,hF3,hC3⟩;have hb3:=hC3.blk HB0.out fun e=>absurd ((HH.out.1.nd i hi).bd _ e) (Nat.lt_irrefl _)
 have HQ3:=Lib.hid (QC.node (HH.out.1.chg0 HC.out) hi hR3 hF3 hC3)
 have HF3:=Lib.hid hF3
 have HC3:=Lib.hid hC3
 have HZ3:=Lib.hid hC3.size
 clear hR3 hF3 hC3;have c4:=(Chg.refl NoB w3).alloc (.cells #[.int .i64 2,.bool done,.int .i64 op,.int .i64 rd,.int .i64 rs,.int .i64 rt,.int .i64 im,.int .u64 pc,.int .i64 cause,.int .i64 access,.int .u64 addr,.int .i64 size,.int .u64 old,.int .u64 new,.int .i64 ev] 86)
 have HQ4:=Lib.hid (HQ3.out.chg0 c4)
 have HB4:=Lib.hid (Blk.new w3 #[.int .i64 2,.bool done,.int .i64 op,.int .i64 rd,.int .i64 rs,.int .i64 rt,.int .i64 im,.int .u64 pc,.int .i64 cause,.int .i64 access,.int .u64 addr,.int .i64 size,.int .u64 old,.int .u64 new,.int .i64 ev] 86)
 have HC4:Hid (Chg (InC F0 Fn n) w (w3.alloc (.cells #[.int .i64 2,.bool done,.int .i64 op,.int .i64 rd,.int .i64 rs,.int .i64 rt,.int .i64 im,.int .u64 pc,.int .i64 cause,.int .i64 access,.int .u64 addr,.int .i64 size,.int .u64 old,.int .u64 new,.int .i64 ev] 86))):=Lib.hid ((HC.out.mono (fun _ _ e=>e.elim)).trans ((HC3.out.mono (S':=InC F0 Fn n) fun k _ e=>.inr ⟨i,hi,e⟩).trans c4 fun _ _ e=>e.elim) fun k _ e=>e)
 have HF4:Hid (∀k,InC F0 (updN Fn i F') n k→InC F0 Fn n k∨w.heap.size≤k):=Lib.hid (inC_upd hi HF3.out (by rw [World.size_alloc];omega))
 have HE4:=Lib.hid (c4.blk0 hb3)
 have HOut:Hid (¬InC F0 (updN Fn i F') n w.heap.size):=Lib.hid (out_upd (fun k hk=>hk.elim (fun e=>HH.out.1.own.bd k e) fun ⟨j,hj,e⟩=>(HH.out.1.nd j hj).bd k e) HF3.out (by rw [World.size_alloc];omega) hi)
 have HN4:Hid (¬F0 w3.heap.size):=Lib.hid fun e=>absurd (HQ3.out.own.bd _ e) (Nat.lt_irrefl _)
 obtain ⟨w4,hw4⟩:∃x,w3.alloc (.cells #[.int .i64 2,.bool done,.int .i64 op,.int .i64 rd,.int .i64 rs,.int .i64 rt,.int .i64 im,.int .u64 pc,.int .i64 cause,.int .i64 access,.int .u64 addr,.int .i64 size,.int .u64 old,.int .u64 new,.int .i64 ev] 86)=x:=⟨_,rfl⟩
 rw [hw4] at HQ4 HB4 HE4 HC4
 clear c4;have HE5:=HB4.out.ever
 have HE5l:=HB4.out.everL
 obtain ⟨vr,bag,hB,-,-,-⟩:=HQ4.out.own.ex
 have g:=hB.cell
 have gl:=hB.lt
 have g1:=HB4.out.cell
 have g1l:=HB4.out.lt
 clear hB;have oX:=Lib.hid (HQ4.out.own.oo.chg0 ((Chg.refl NoB w4).alloc (.cells #[.int .i64 i] 3)))
 have sX:=Lib.hid (Sl.fresh w4 [.int .i64 i] 3 1 (size:=1) rfl)
 have HAdd:Hid (∀v' w5,Own w5 (fun k=>ov.ownBlock=some k∨k=(w4.alloc (.cells #[.int .i64 i] 3)).heap.size) 3 1 v' (no+1) (os ++ [.int .i64 i])→(w4.alloc (.cells #[.int .i64 i] 3)).grownBy w5 ov.ownBlock→
   (∃cs:Array Value,Blk w5 cb cs 78∧cs[7]? = some ov)∧∃F0'':Nat→Prop,QC (w5.setCell ⟨cb,7,none⟩ v') F0'' (updN Fn i F') cb n sh nb ⟨tick,steps,bad,fv,nf,fs,v',no+1,os ++ [.int .i64 i]⟩ (updN y i z)∧Blk (w5.setCell ⟨cb,7,none⟩ v') w3.heap.size #[.int .i64 2,.bool done,.int .i64 op,.int .i64 rd,.int .i64 rs,.int .i64 rt,.int .i64 im,.int .u64 pc,.int .i64 cause,.int .i64 access,.int .u64 addr,.int .i64 size,.int .u64 old,.int .u64 new,.int .i64 ev] 86∧Blk (w5.setCell ⟨cb,7,none⟩ v') w.heap.size #[.int .i64 0,.bool false,.int .i64 0,.int .i64 0,.int .i64 0,.int .i64 0,.int .i64 0,.int .u64 0,.int .i64 0,.int .i64 0,.int .u64 0,.int .i64 0,.int .u64 0,.int .u64 0,.int .i64 0] 86∧(∀k,InC F0'' (updN Fn i F') n k→InC F0 Fn n k∨w.heap.size≤k)∧Chg (InC F0 Fn n) w (w5.setCell ⟨cb,7,none⟩ v')∧¬InC F0'' (updN Fn i F') n w.heap.size∧¬F0'' w3.heap.size):=Lib.hid (fun v' w5 ho hg=>by
  obtain ⟨r1,r2,r3⟩:=COwn.order HQ4.out.own [.int .i64 i] ho hg
  have z1:w.heap.size<w4.heap.size:=HE4.out.lt
  have z2:w3.heap.size<w4.heap.size:=HB4.out.lt
  refine ⟨r1,_,HQ4.out.grow r2 (fun k hk=>hk.imp id fun h=>h.1) r3,r3.blk HB4.out HN4.out,r3.blk HE4.out fun e=>HOut.out (.inl e),fun k hk=>hk.elim (fun e=>e.elim (fun e=>HF4.out k (.inl e)) fun e=>.inr (by omega)) fun e=>HF4.out k (.inr e),((HC4.out.mono (S':=fun k=>InC F0 Fn n k∨w.heap.size≤k) fun _ _ e=>.inl e).trans (r3.mono (S':=fun k=>InC F0 Fn n k∨w.heap.size≤k) fun k _ e=>HF4.out k (.inl e)) fun _ _ e=>e).mono fun k hk e=>e.elim id fun e=>absurd e (Nat.not_le_of_lt hk),?_,?_⟩
  ·rintro ((e | e) | e)
   ·exact HOut.out (.inl e)
   ·omega
   ·exact HOut.out (.inr e)
  ·rintro (e | e)
   ·exact HN4.out e
   ·omega)
 have one:∀u∈([.int .i64 i]:List Value),u.oneCell'=true:=by simp [Value.oneCell']
 have b1:no+1≤maxLen:=by unfold maxLen;omega
 have b2:(no+1)*8≤140737488355328:=by omega
 obtain ⟨i0,hi0,hz0,hz1,hz2⟩:=info_parts INTi
 go_wp2_with (at_builtin;go_must (refine wpList_app rfl _ _ 30 rfl i0 _ 8 Tryz.underlying30 hi0 hz0 hz1 hz2 rfl rfl oX.out _ 1 _ rfl sX.out one b1 b2 ?_))
 intro v' w5 ho5 hg5 hn5;obtain ⟨yp,yc,hy⟩:=ho5.form
 subst hy;obtain ⟨⟨cs,hcs,hcv⟩,F0'',r1,r2,r3,r4,r5,r6,r7⟩   :=HAdd.out (.slice yp (no+1) yc) w5 (by first | exact ho5 | (rw [World.size_alloc];exact ho5)) hg5
 have k0:=hcs.cell' (i:=7) (v:=ov) hcv
 have kz:=hcs.frozen 7
 have kl:=hcs.lt
 clear oX sX HAdd HQ4 HB4 HE4 HF4 HC4 HOut HN4 hi0 hz0 hz1 hz2 one b1 b2 ho5 hg5 hn5 hcs hcv i0;obtain ⟨w6,hw6⟩:∃x,w5.setCell ⟨cb,7,none⟩ (.slice yp (no+1) yc)=x:=⟨_,rfl⟩
 rw [hw6] at r1 r2 r3 r5
 have HQ4:=Lib.hid r1
 have HB4:=Lib.hid r2
 have HE4:=Lib.hid r3
 have HF4:=Lib.hid r4
 have HC4:=Lib.hid r5
 have HOut:=Lib.hid r6
 have HN4:=Lib.hid r7
 clear r1 r2 r3 r4 r5 r6 r7;obtain ⟨vr,bag,hB,-,-,-⟩:=HQ4.out.own.ex
 have g:=hB.cell
 have gl:=hB.lt
 have g1:=HB4.out.cell
 have g1l:=HB4.out.lt
 clear hB;clear g gl g1 g1l;obtain ⟨vq,bag2,hB,-,-,-⟩:=HQ4.out.own.ex
 have hvb:∀k,fv.ownBlock=some k→∃cur,Blk w6 k cur 71:=fun k hk=>own_blk HQ4.out.own.fo hk
 have hv1:¬fv.ownBlock=some cb:=fun e=>by obtain ⟨cur,hc⟩:=hvb cb e;exact absurd (hc.inj hB).2 (by decide)
 have hv2:¬fv.ownBlock=some w3.heap.size:=fun e=>by obtain ⟨cur,hc⟩:=hvb _ e;exact absurd (hc.inj HB4.out).2 (by decide)
 have g:∀w',Chg (fun k=>fv.ownBlock=some k) w6 w'→∀i,w'.cell? ⟨cb,i,none⟩ = #[vq,.int .i64 sh,.pointer (some ⟨bag2,0,none⟩),.int .i64 tick,.int .i64 steps,.int .i64 bad,fv,.slice yp (no+1) yc][i]?:=fun w' k i=>(k.blk hB hv1).cell i
 have gl:∀w',Chg (fun k=>fv.ownBlock=some k) w6 w'→cb<w'.heap.size:=fun w' k=>(k.blk hB hv1).lt
 have HB6:=Lib.hid HB4.out
 have g1:∀w',Chg (fun k=>fv.ownBlock=some k) w6 w'→∀i,w'.cell? ⟨w3.heap.size,i,none⟩ = #[.int .i64 2,.bool done,.int .i64 op,.int .i64 rd,.int .i64 rs,.int .i64 rt,.int .i64 im,.int .u64 pc,.int .i64 cause,.int .i64 access,.int .u64 addr,.int .i64 size,.int .u64 old,.int .u64 new,.int .i64 ev][i]?:=fun w' k i=>(k.blk HB6.out hv2).cell i
 have g1l:∀w',Chg (fun k=>fv.ownBlock=some k) w6 w'→w3.heap.size<w'.heap.size:=fun w' k=>(k.blk HB6.out hv2).lt
 have cv:=Chg.refl (fun k=>fv.ownBlock=some k) w6
 have cd:=(Chg.refl NoB w6).drew
 replace HQ4:=Lib.hid (HQ4.out.chg0 cd)
 replace HB4:=Lib.hid (cd.blk0 HB4.out)
 replace HE4:=Lib.hid (cd.blk0 HE4.out)
 replace HC4:=Lib.hid (HC4.out.trans cd fun _ _ e=>e.elim)
 clear cd hvb hB;have oX:=Lib.hid (HQ4.out.own.fo.chg0 ((Chg.refl NoB w6.drew).alloc (.cells #[.int .i64 steps,.int .i64 i,.int .i64 ev,.bool done,.int .i64 op,.int .i64 rd,.int .i64 rs,.int .i64 rt,.int .i64 im,.int .u64 pc,.int .i64 cause,.int .i64 access,.int .u64 addr,.int .i64 size,.int .u64 old,.int .u64 new] 71)))
 have sX:=Lib.hid (Sl.fresh w6.drew [.int .i64 steps,.int .i64 i,.int .i64 ev,.bool done,.int .i64 op,.int .i64 rd,.int .i64 rs,.int .i64 rt,.int .i64 im,.int .u64 pc,.int .i64 cause,.int .i64 access,.int .u64 addr,.int .i64 size,.int .u64 old,.int .u64 new] 71 1 (size:=16) rfl)
 have HAdd:Hid (∀v' w5,Own w5 (fun k=>fv.ownBlock=some k∨k=(w6.drew.alloc (.cells #[.int .i64 steps,.int .i64 i,.int .i64 ev,.bool done,.int .i64 op,.int .i64 rd,.int .i64 rs,.int .i64 rt,.int .i64 im,.int .u64 pc,.int .i64 cause,.int .i64 access,.int .u64 addr,.int .i64 size,.int .u64 old,.int .u64 new] 71)).heap.size) 71 16 v' (nf+1) (fs ++ [.int .i64 steps,.int .i64 i,.int .i64 ev,.bool done,.int .i64 op,.int .i64 rd,.int .i64 rs,.int .i64 rt,.int .i64 im,.int .u64 pc,.int .i64 cause,.int .i64 access,.int .u64 addr,.int .i64 size,.int .u64 old,.int .u64 new])→(w6.drew.alloc (.cells #[.int .i64 steps,.int .i64 i,.int .i64 ev,.bool done,.int .i64 op,.int .i64 rd,.int .i64 rs,.int .i64 rt,.int .i64 im,.int .u64 pc,.int .i64 cause,.int .i64 access,.int .u64 addr,.int .i64 size,.int .u64 old,.int .u64 new] 71)).grownBy w5 fv.ownBlock→
   (∃cs:Array Value,Blk w5 cb cs 78∧cs[6]? = some fv)∧∃F0'':Nat→Prop,QC (w5.setCell ⟨cb,6,none⟩ v') F0'' (updN Fn i F') cb n sh nb ⟨tick,steps,bad,v',nf+1,fs ++ [.int .i64 steps,.int .i64 i,.int .i64 ev,.bool done,.int .i64 op,.int .i64 rd,.int .i64 rs,.int .i64 rt,.int .i64 im,.int .u64 pc,.int .i64 cause,.int .i64 access,.int .u64 addr,.int .i64 size,.int .u64 old,.int .u64 new],.slice yp (no+1) yc,no+1,os ++ [.int .i64 i]⟩ (updN y i z)∧Blk (w5.setCell ⟨cb,6,none⟩ v') w3.heap.size #[.int .i64 2,.bool done,.int .i64 op,.int .i64 rd,.int .i64 rs,.int .i64 rt,.int .i64 im,.int .u64 pc,.int .i64 cause,.int .i64 access,.int .u64 addr,.int .i64 size,.int .u64 old,.int .u64 new,.int .i64 ev] 86∧Blk (w5.setCell ⟨cb,6,none⟩ v') w.heap.size #[.int .i64 0,.bool false,.int .i64 0,.int .i64 0,.int .i64 0,.int .i64 0,.int .i64 0,.int .u64 0,.int .i64 0,.int .i64 0,.int .u64 0,.int .i64 0,.int .u64 0,.int .u64 0,.int .i64 0] 86∧(∀k,InC F0'' (updN Fn i F') n k→InC F0 Fn n k∨w.heap.size≤k)∧Chg (InC F0 Fn n) w (w5.setCell ⟨cb,6,none⟩ v')∧¬InC F0'' (updN Fn i F') n w.heap.size∧¬F0'' w3.heap.size):=Lib.hid (fun v' w5 ho hg=>by
  obtain ⟨r1,r2,r3⟩:=COwn.fact HQ4.out.own [.int .i64 steps,.int .i64 i,.int .i64 ev,.bool done,.int .i64 op,.int .i64 rd,.int .i64 rs,.int .i64 rt,.int .i64 im,.int .u64 pc,.int .i64 cause,.int .i64 access,.int .u64 addr,.int .i64 size,.int .u64 old,.int .u64 new] ho hg
  have z1:w.heap.size<w6.drew.heap.size:=HE4.out.lt
  have z2:w3.heap.size<w6.drew.heap.size:=HB4.out.lt
  refine ⟨r1,_,HQ4.out.grow r2 (fun k hk=>hk.imp id fun h=>h.1) r3,r3.blk HB4.out HN4.out,r3.blk HE4.out fun e=>HOut.out (.inl e),fun k hk=>hk.elim (fun e=>e.elim (fun e=>HF4.out k (.inl e)) fun e=>.inr (by omega)) fun e=>HF4.out k (.inr e),((HC4.out.mono (S':=fun k=>InC F0 Fn n k∨w.heap.size≤k) fun _ _ e=>.inl e).trans (r3.mono (S':=fun k=>InC F0 Fn n k∨w.heap.size≤k) fun k _ e=>HF4.out k (.inl e)) fun _ _ e=>e).mono fun k hk e=>e.elim id fun e=>absurd e (Nat.not_le_of_lt hk),?_,?_⟩
  ·rintro ((e | e) | e)
   ·exact HOut.out (.inl e)
   ·omega
   ·exact HOut.out (.inr e)
  ·rintro (e | e)
   ·exact HN4.out e
   ·omega)
 have one:∀u∈([.int .i64 steps,.int .i64 i,.int .i64 ev,.bool done,.int .i64 op,.int .i64 rd,.int .i64 rs,.int .i64 rt,.int .i64 im,.int .u64 pc,.int .i64 cause,.int .i64 access,.int .u64 addr,.int .i64 size,.int .u64 old,.int .u64 new]:List Value),u.oneCell'=true:=by simp [Value.oneCell']
 have b1:nf+1≤maxLen:=by unfold maxLen;omega
 have b2:(nf+1)*128≤140737488355328:=by omega
 obtain ⟨i0,hi0,hz0,hz1,hz2⟩:=info_parts FACTi
 have oX:Hid (Own (w6.alloc (.cells #[.int .i64 steps,.int .i64 i,.int .i64 ev,.bool done,.int .i64 op,.int .i64 rd,.int .i64 rs,.int .i64 rt,.int .i64 im,.int .u64 pc,.int .i64 cause,.int .i64 access,.int .u64 addr,.int .i64 size,.int .u64 old,.int .u64 new] 71)).drew _ 71 16 fv nf fs):=oX
 have sX:Hid (Sl (w6.alloc (.cells #[.int .i64 steps,.int .i64 i,.int .i64 ev,.bool done,.int .i64 op,.int .i64 rd,.int .i64 rs,.int .i64 rt,.int .i64 im,.int .u64 pc,.int .i64 cause,.int .i64 access,.int .u64 addr,.int .i64 size,.int .u64 old,.int .u64 new] 71)).drew (fun k=>k=w6.heap.size) 16 (.slice (some ⟨w6.heap.size,0,none⟩) 1 1) 1 [.int .i64 steps,.int .i64 i,.int .i64 ev,.bool done,.int .i64 op,.int .i64 rd,.int .i64 rs,.int .i64 rt,.int .i64 im,.int .u64 pc,.int .i64 cause,.int .i64 access,.int .u64 addr,.int .i64 size,.int .u64 old,.int .u64 new]):=sX
 go_upto_region 8 with fail;refine wp_region_mix 19 [(true,0),(true,1),(true,2),(true,3),(true,4),(true,5),(true,6),(true,7),(true,8),(true,9),(true,10),(true,11),(true,12),(true,13),(true,14),(false,15),(false,16),(true,17),(true,18)] (fun w'=>Chg (fun k=>fv.ownBlock=some k) w6 w') (by kernel_rfl) (by kernel_rfl) (fun _ _ _ _ _ h=>h) (cv.drew) ?_
 simp only [pickMix_nil,pickMix_cons,Option.getD_some,List.getElem?_toArray,List.getElem?_cons_zero,List.getElem?_cons_succ,List.cons_append,List.nil_append,List.drop_succ_cons,List.drop_zero]
 iterate 15
  refine wpMix_take rfl ?_;apply Exists.intro;refine ⟨fun wS hS=>?_,?_⟩
  ·try dsimp only at hS
   have cS:=hS
   go_simp;try rfl
  simp only [Act.put,List.setIfInBounds_toArray,List.set_cons_zero,List.set_cons_succ]
 refine wpMix_force rfl (fun K hK=>?_)
 go_simp;refine hK _ _ (cv.drew.alloc _) ?_
 clear hK K;refine wpMix_force rfl (fun K hK=>?_)
 refine opwp_app (v:=fv) _ _ 34 rfl i0 _ 128 Tryz.underlying34 hi0 hz0 hz1 hz2 rfl (by rfl) oX.out _ 1 _ (by rfl) sX.out one b1 b2 ?_
 intro v' w5 ho5 hg5 hn5;have c5:Chg (fun k=>fv.ownBlock=some k) w6 w5:=(cv.alloc (.cells #[.int .i64 steps,.int .i64 i,.int .i64 ev,.bool done,.int .i64 op,.int .i64 rd,.int .i64 rs,.int .i64 rt,.int .i64 im,.int .u64 pc,.int .i64 cause,.int .i64 access,.int .u64 addr,.int .i64 size,.int .u64 old,.int .u64 new] 71)).drew.step (grown_chg (S:=fun k=>fv.ownBlock=some k) hg5 fun k hk=>hk)
 refine hK _ _ c5 ?_
 clear hK K;iterate 2
  refine wpMix_take rfl ?_;apply Exists.intro;refine ⟨fun wS hS=>?_,?_⟩
  ·try dsimp only at hS
   have cS:=hS
   go_simp;try rfl
  simp only [Act.put,List.setIfInBounds_toArray,List.set_cons_zero,List.set_cons_succ]
 refine wpMix_nil ?_
 obtain ⟨zp,zc,hy⟩:=ho5.form
 subst hy;obtain ⟨⟨cs,hcs,hcv⟩,F0'',r1,r2,r3,r4,r5,r6,r7⟩   :=HAdd.out (.slice zp (nf+1) zc) w5 (by first | exact ho5 | (rw [World.size_alloc];exact ho5)) hg5
 have k0:=hcs.cell' (i:=6) (v:=fv) hcv
 have kz:=hcs.frozen 6
 have kl:=hcs.lt
 clear oX sX HAdd HQ4 HB4 HE4 HF4 HC4 HOut HN4 hi0 hz0 hz1 hz2 one b1 b2 ho5 hg5 hn5 hcs hcv i0;obtain ⟨w7,hw6⟩:∃x,w5.setCell ⟨cb,6,none⟩ (.slice zp (nf+1) zc)=x:=⟨_,rfl⟩
 rw [hw6] at r1 r2 r3 r5
 have HQ4:=Lib.hid r1
 have HB4:=Lib.hid r2
 have HE4:=Lib.hid r3
 have HF4:=Lib.hid r4
 have HC4:=Lib.hid r5
 have HOut:=Lib.hid r6
 have HN4:=Lib.hid r7
 clear r1 r2 r3 r4 r5 r6 r7;obtain ⟨vr,bag,hB,-,-,-⟩:=HQ4.out.own.ex
 have g:=hB.cell
 have gl:=hB.lt
 have g1:=HB4.out.cell
 have g1l:=HB4.out.lt
 clear hB;have HM:=Lib.hid (mail_quiet HQ4.out hn HTk.out i hi)
 clear g gl;go_wp2_with fail;with_reducible refine HM.out.mono ?_
 rintro e w5 ⟨rfl,hC5⟩;have b5:=hC5.blk0 HB4.out
 have k5:=b5.cell
 have l5:=b5.lt
 have y3:=hC5.blk0 HE4.out
 have HSA:=store_all y3 [.int .i64 2,.bool done,.int .i64 op,.int .i64 rd,.int .i64 rs,.int .i64 rt,.int .i64 im,.int .u64 pc,.int .i64 cause,.int .i64 access,.int .u64 addr,.int .i64 size,.int .u64 old,.int .u64 new,.int .i64 ev] rfl
 have HF:Hid (QC (w5.setCells w.heap.size 0 [.int .i64 2,.bool done,.int .i64 op,.int .i64 rd,.int .i64 rs,.int .i64 rt,.int .i64 im,.int .u64 pc,.int .i64 cause,.int .i64 access,.int .u64 addr,.int .i64 size,.int .u64 old,.int .u64 new,.int .i64 ev]) F0'' (updN Fn i F') cb n sh nb _ (updN y i z)∧(∀k,InC F0'' (updN Fn i F') n k→InC F0 Fn n k∨w.heap.size≤k)∧Chg (InC F0 Fn n) w (w5.setCells w.heap.size 0 [.int .i64 2,.bool done,.int .i64 op,.int .i64 rd,.int .i64 rs,.int .i64 rt,.int .i64 im,.int .u64 pc,.int .i64 cause,.int .i64 access,.int .u64 addr,.int .i64 size,.int .u64 old,.int .u64 new,.int .i64 ev])):=Lib.hid ⟨(HQ4.out.chg0 hC5).chg HSA.2 (fun k hk (e:k=w.heap.size)=>HOut.out (.inl (e▸hk))) (fun j k hj hk (e:k=w.heap.size)=>HOut.out (.inr ⟨j,hj,e▸hk⟩)),HF4.out,((HC4.out.trans hC5 fun _ _ e=>e.elim).mono (S':=fun k=>InC F0 Fn n k∨w.heap.size≤k) fun _ _ e=>.inl e).trans (HSA.2.mono (S':=fun k=>InC F0 Fn n k∨w.heap.size≤k) fun k _ e=>.inr (Nat.le_of_eq e.symm)) (fun k hk e=>e) |>.mono fun k hk e=>e.elim id fun e=>absurd e (Nat.not_le_of_lt hk)⟩
 clear HOut;generalize hzb:w.heap.size=b0 at *;have HZb:=Lib.hid hzb
 clear hzb;obtain ⟨w6,hw6⟩:∃x,w5.setCells b0 0 [.int .i64 2,.bool done,.int .i64 op,.int .i64 rd,.int .i64 rs,.int .i64 rt,.int .i64 im,.int .u64 pc,.int .i64 cause,.int .i64 access,.int .u64 addr,.int .i64 size,.int .u64 old,.int .u64 new,.int .i64 ev]=x:=⟨_,rfl⟩
 rw [hw6] at HF HSA
 replace hw6:(((((((((((((((w5.setCell ⟨b0,0,none⟩ (.int .i64 2)).setCell ⟨b0,1,none⟩ (.bool done)).setCell ⟨b0,2,none⟩ (.int .i64 op)).setCell ⟨b0,3,none⟩ (.int .i64 rd)).setCell ⟨b0,4,none⟩ (.int .i64 rs)).setCell ⟨b0,5,none⟩ (.int .i64 rt)).setCell ⟨b0,6,none⟩ (.int .i64 im)).setCell ⟨b0,7,none⟩ (.int .u64 pc)).setCell ⟨b0,8,none⟩ (.int .i64 cause)).setCell ⟨b0,9,none⟩ (.int .i64 access)).setCell ⟨b0,10,none⟩ (.int .u64 addr)).setCell ⟨b0,11,none⟩ (.int .i64 size)).setCell ⟨b0,12,none⟩ (.int .u64 old)).setCell ⟨b0,13,none⟩ (.int .u64 new)).setCell ⟨b0,14,none⟩ (.int .i64 ev))=w6:=hw6
 have k:=y3.cell
 have kz:=y3.frozen
 have kl:=y3.lt
 have q:=HSA.1.cell
 have ql:=HSA.1.lt
 clear y3 HSA hC5 b5 HE4;go_wp2_with fail;exact bodyPost_ret (v:=.tuple #[.agg #[.int .i64 2,.bool done,.int .i64 op,.int .i64 rd,.int .i64 rs,.int .i64 rt,.int .i64 im,.int .u64 pc,.int .i64 cause,.int .i64 access,.int .u64 addr,.int .i64 size,.int .u64 old,.int .u64 new,.int .i64 ev],.bool true]) (by simp [results,Tryz.results78,go_sem,q]) rfl ⟨rfl,_,F0'',updN Fn i F',by rw [HZb.out];exact ⟨HF.out.1,rfl,HF.out.2⟩⟩
end Go.Proofs.YtjhnnjgnkkjmkaaGreatDoor
