/- Clusters that run: order and facts grow; a turn of a node. No condition. Clusters that run: a turn of a node; a turn of nobody. No condition. Clusters that run: a turn of a node; a turn of nobody. No condition. -/
import Derived.Test.YtjhnnjgnkkjmkaaGreatDoorIe
set_option maxHeartbeats 1000000
set_option maxRecDepth 100000
set_option linter.unusedVariables false
set_option linter.unusedSimpArgs false
namespace Go.Proofs.YtjhnnjgnkkjmkaaGreatDoor
open Go.RowKit Go.RR
theorem ownT {w w':World} {S S':Nat→Prop} {E:TypeId} {size n:Nat} {v:Value} {us:List Value} (h:Own w S E size v n us) (c:Chg S' w w') (hs:∀k cur,Blk w k cur E→¬S' k):Own w' S E size v n us:=by
 refine ⟨h.1,?_⟩
 rcases h.2 with h | ⟨g,off,cap,cur,hv,hg,hb,r⟩
 ·exact .inl h
 ·exact .inr ⟨g,off,cap,cur,hv,hg,c.blk hb (hs g cur hb),r⟩
theorem COwn.order {w w5:World} {F0:Nat→Prop} {cb n sh:Nat} {nb:Nat→Nat} {x:Cst} (h:COwn w F0 cb n sh nb x) (new:List Value) {v':Value} (ho:Own w5 (fun k=>x.ov.ownBlock=some k∨k=(w.alloc (.cells new.toArray 3)).heap.size) 3 1 v' (x.no+1) (x.os ++ new)) (hg:(w.alloc (.cells new.toArray 3)).grownBy w5 x.ov.ownBlock) :
  (∃cs:Array Value,Blk w5 cb cs 78∧cs[7]? = some x.ov)∧COwn (w5.setCell ⟨cb,7,none⟩ v') (fun k=>F0 k∨(w.heap.size≤k∧k<w5.heap.size)) cb n sh nb { x with ov:=v',no:=x.no+1,os:=x.os ++ new}∧Chg F0 w (w5.setCell ⟨cb,7,none⟩ v'):=by
 have ca:Chg NoB w (w.alloc (.cells new.toArray 3)):=(Chg.refl NoB w).alloc _
 have C5:Chg (fun k=>x.ov.ownBlock=some k) (w.alloc (.cells new.toArray 3)) w5:=grown_chg hg fun k hk=>hk
 have hvo:=h.oo.ownBlock
 have hvb:∀k,x.ov.ownBlock=some k→∃cur,Blk w k cur 3:=fun k hk=>own_blk h.oo hk
 obtain ⟨v,bag,hB,hO,hb,hBag⟩:=h.ex
 have hcb:¬x.ov.ownBlock=some cb:=fun e=>by obtain ⟨cur,hc⟩:=hvb cb e;exact absurd (hc.inj hB).2 (by decide)
 have hbg:¬x.ov.ownBlock=some bag:=fun e=>by obtain ⟨cur,hc⟩:=hvb bag e;exact absurd (hc.inj hBag).2 (by decide)
 have C05:Chg (fun k=>x.ov.ownBlock=some k) w w5:=(ca.mono (S':=fun k=>x.ov.ownBlock=some k) fun _ _ e=>e.elim).trans C5 fun k _ e=>e
 have CN:Chg (fun k=>k=cb) w5 (w5.setCell ⟨cb,7,none⟩ v'):=(Chg.refl (fun k=>k=cb) w5).setCell (a:=⟨cb,7,none⟩) (.inl rfl) _
 have C06:Chg (fun k=>x.ov.ownBlock=some k∨k=cb) w (w5.setCell ⟨cb,7,none⟩ v'):=(C05.mono (S':=fun k=>x.ov.ownBlock=some k∨k=cb) fun _ _ e=>.inl e).trans CN fun k _ e=>.inr e
 have hB5:=C05.blk hB hcb
 have hz:(w5.setCell ⟨cb,7,none⟩ v').heap.size=w5.heap.size:=World.size_setCell ..
 have hz5:=C05.size
 have hT:∀(E:TypeId) (k:Nat) (cur:Array Value),E≠3→E≠78→Blk w k cur E→¬(x.ov.ownBlock=some k∨k=cb):=fun E k cur n1 n2 hk e=>by
  rcases e with e | e
  ·obtain ⟨c2,hc⟩:=hvb k e;exact n1 (hk.inj hc).2
  ·rw [e] at hk;exact n2 (hk.inj hB).2
 have hbc:bag≠cb:=fun e=>by rw [e] at hBag;exact absurd (hBag.inj hB).2 (by decide)
 refine ⟨⟨_,hB5,rfl⟩,⟨.inl h.f0,fun k hk=>?_,⟨v,bag,?_,?_,.inl hb,?_⟩,?_,?_⟩,C06.mono fun k _ e=>e.elim (fun e=>(hvo k e).1) fun e=>e▸h.f0⟩
 ·rw [hz]
  exact hk.elim (fun h'=>Nat.lt_of_lt_of_le (h.bd k h') hz5) fun h'=>h'.2
 ·exact hB5.set 7 v'
 ·exact (ownT hO C06 fun k cur hk=>hT _ k cur (by decide) (by decide) hk).mono fun k hk=>.inl hk
 ·exact C06.blk hBag fun e=>e.elim hbg hbc
 all_goals first
  | exact ((ownT ho CN fun k cur hk (e:k=cb)=>by rw [e] at hk;exact absurd (hk.inj hB5).2 (by decide)).monoIn fun k hk hk'=>hk'.elim (fun e=>.inl (hvo k e).1) fun e=>.inr ⟨by rw [World.size_alloc] at e;omega,by rw [hz] at hk;exact hk⟩)
  | exact (ownT h.fo C06 fun k cur hk=>hT _ k cur (by decide) (by decide) hk).mono fun k hk=>.inl hk
  | exact (ownT h.oo C06 fun k cur hk=>hT _ k cur (by decide) (by decide) hk).mono fun k hk=>.inl hk
theorem COwn.fact {w w5:World} {F0:Nat→Prop} {cb n sh:Nat} {nb:Nat→Nat} {x:Cst} (h:COwn w F0 cb n sh nb x) (new:List Value) {v':Value} (ho:Own w5 (fun k=>x.fv.ownBlock=some k∨k=(w.alloc (.cells new.toArray 71)).heap.size) 71 16 v' (x.nf+1) (x.fs ++ new)) (hg:(w.alloc (.cells new.toArray 71)).grownBy w5 x.fv.ownBlock) :
  (∃cs:Array Value,Blk w5 cb cs 78∧cs[6]? = some x.fv)∧COwn (w5.setCell ⟨cb,6,none⟩ v') (fun k=>F0 k∨(w.heap.size≤k∧k<w5.heap.size)) cb n sh nb { x with fv:=v',nf:=x.nf+1,fs:=x.fs ++ new}∧Chg F0 w (w5.setCell ⟨cb,6,none⟩ v'):=by
 have ca:Chg NoB w (w.alloc (.cells new.toArray 71)):=(Chg.refl NoB w).alloc _
 have C5:Chg (fun k=>x.fv.ownBlock=some k) (w.alloc (.cells new.toArray 71)) w5:=grown_chg hg fun k hk=>hk
 have hvo:=h.fo.ownBlock
 have hvb:∀k,x.fv.ownBlock=some k→∃cur,Blk w k cur 71:=fun k hk=>own_blk h.fo hk
 obtain ⟨v,bag,hB,hO,hb,hBag⟩:=h.ex
 have hcb:¬x.fv.ownBlock=some cb:=fun e=>by obtain ⟨cur,hc⟩:=hvb cb e;exact absurd (hc.inj hB).2 (by decide)
 have hbg:¬x.fv.ownBlock=some bag:=fun e=>by obtain ⟨cur,hc⟩:=hvb bag e;exact absurd (hc.inj hBag).2 (by decide)
 have C05:Chg (fun k=>x.fv.ownBlock=some k) w w5:=(ca.mono (S':=fun k=>x.fv.ownBlock=some k) fun _ _ e=>e.elim).trans C5 fun k _ e=>e
 have CN:Chg (fun k=>k=cb) w5 (w5.setCell ⟨cb,6,none⟩ v'):=(Chg.refl (fun k=>k=cb) w5).setCell (a:=⟨cb,6,none⟩) (.inl rfl) _
 have C06:Chg (fun k=>x.fv.ownBlock=some k∨k=cb) w (w5.setCell ⟨cb,6,none⟩ v'):=(C05.mono (S':=fun k=>x.fv.ownBlock=some k∨k=cb) fun _ _ e=>.inl e).trans CN fun k _ e=>.inr e
 have hB5:=C05.blk hB hcb
 have hz:(w5.setCell ⟨cb,6,none⟩ v').heap.size=w5.heap.size:=World.size_setCell ..
 have hz5:=C05.size
 have hT:∀(E:TypeId) (k:Nat) (cur:Array Value),E≠71→E≠78→Blk w k cur E→¬(x.fv.ownBlock=some k∨k=cb):=fun E k cur n1 n2 hk e=>by
  rcases e with e | e
  ·obtain ⟨c2,hc⟩:=hvb k e;exact n1 (hk.inj hc).2
  ·rw [e] at hk;exact n2 (hk.inj hB).2
 have hbc:bag≠cb:=fun e=>by rw [e] at hBag;exact absurd (hBag.inj hB).2 (by decide)
 refine ⟨⟨_,hB5,rfl⟩,⟨.inl h.f0,fun k hk=>?_,⟨v,bag,?_,?_,.inl hb,?_⟩,?_,?_⟩,C06.mono fun k _ e=>e.elim (fun e=>(hvo k e).1) fun e=>e▸h.f0⟩
 ·rw [hz]
  exact hk.elim (fun h'=>Nat.lt_of_lt_of_le (h.bd k h') hz5) fun h'=>h'.2
 ·exact hB5.set 6 v'
 ·exact (ownT hO C06 fun k cur hk=>hT _ k cur (by decide) (by decide) hk).mono fun k hk=>.inl hk
 ·exact C06.blk hBag fun e=>e.elim hbg hbc
 all_goals first
  | exact ((ownT ho CN fun k cur hk (e:k=cb)=>by rw [e] at hk;exact absurd (hk.inj hB5).2 (by decide)).monoIn fun k hk hk'=>hk'.elim (fun e=>.inl (hvo k e).1) fun e=>.inr ⟨by rw [World.size_alloc] at e;omega,by rw [hz] at hk;exact hk⟩)
  | exact (ownT h.fo C06 fun k cur hk=>hT _ k cur (by decide) (by decide) hk).mono fun k hk=>.inl hk
  | exact (ownT h.oo C06 fun k cur hk=>hT _ k cur (by decide) (by decide) hk).mono fun k hk=>.inl hk
theorem crun_bad {w:World} {F0:Nat→Prop} {cb n sh:Nat} {nb:Nat→Nat} {x:Cst} (h:COwn w F0 cb n sh nb x) (i:Nat) (hi:n≤i) (pick:Int):Calls Tryz.prog 78 #[.pointer (some ⟨cb,0,none⟩),.int .i64 i,.int .i64 pick] w (RetW (.tuple #[.agg #[.int .i64 0,.bool false,.int .i64 0,.int .i64 0,.int .i64 0,.int .i64 0,.int .i64 0,.int .u64 0,.int .i64 0,.int .i64 0,.int .u64 0,.int .i64 0,.int .u64 0,.int .u64 0,.int .i64 (-1)],.bool false]) fun w'=>Chg NoB w w'):=by
 have c0:=(Chg.refl NoB w).alloc (.cells #[.int .i64 0,.bool false,.int .i64 0,.int .i64 0,.int .i64 0,.int .i64 0,.int .i64 0,.int .u64 0,.int .i64 0,.int .i64 0,.int .u64 0,.int .i64 0,.int .u64 0,.int .u64 0,.int .i64 0] 86)
 have HC:=Lib.hid c0
 have HB:=Lib.hid (Blk.new w #[.int .i64 0,.bool false,.int .i64 0,.int .i64 0,.int .i64 0,.int .i64 0,.int .i64 0,.int .u64 0,.int .i64 0,.int .i64 0,.int .u64 0,.int .i64 0,.int .u64 0,.int .u64 0,.int .i64 0] 86)
 have HN:=Lib.hid (qNode_out (h.chg0 c0) i hi)
 have HI:=Lib.hid (idle_any (w.alloc (.cells #[.int .i64 0,.bool false,.int .i64 0,.int .i64 0,.int .i64 0,.int .i64 0,.int .i64 0,.int .u64 0,.int .i64 0,.int .i64 0,.int .u64 0,.int .i64 0,.int .u64 0,.int .u64 0,.int .i64 0] 86)))
 clear h c0;go_enter Tryz.func78,Tryz.ntmps78;go_wp2_with fail;with_reducible refine HN.out.mono ?_
 rintro e w2 ⟨rfl,rfl⟩;go_wp2_with fail;with_reducible refine HI.out.mono ?_
 rintro e w3 ⟨rfl,hC⟩;have y3:=hC.blk0 HB.out
 have HSA:=store_all y3 [.int .i64 0,.bool false,.int .i64 0,.int .i64 0,.int .i64 0,.int .i64 0,.int .i64 0,.int .u64 0,.int .i64 0,.int .i64 0,.int .u64 0,.int .i64 0,.int .u64 0,.int .u64 0,.int .i64 (-1)] rfl
 have HF:Hid (Chg NoB w (w3.setCells w.heap.size 0 [.int .i64 0,.bool false,.int .i64 0,.int .i64 0,.int .i64 0,.int .i64 0,.int .i64 0,.int .u64 0,.int .i64 0,.int .i64 0,.int .u64 0,.int .i64 0,.int .u64 0,.int .u64 0,.int .i64 (-1)])):=Lib.hid (((HC.out.trans hC fun _ _ e=>e.elim).mono (S':=fun k=>w.heap.size≤k) fun _ _ e=>e.elim).trans (HSA.2.mono (S':=fun k=>w.heap.size≤k) fun k _ e=>Nat.le_of_eq e.symm) (fun k hk e=>absurd e (Nat.not_le_of_lt hk)) |>.mono fun k hk e=>absurd e (Nat.not_le_of_lt hk))
 generalize w.heap.size=b0 at *;obtain ⟨w6,hw6⟩:∃x,w3.setCells b0 0 [.int .i64 0,.bool false,.int .i64 0,.int .i64 0,.int .i64 0,.int .i64 0,.int .i64 0,.int .u64 0,.int .i64 0,.int .i64 0,.int .u64 0,.int .i64 0,.int .u64 0,.int .u64 0,.int .i64 (-1)]=x:=⟨_,rfl⟩
 rw [hw6] at HF HSA
 replace hw6:(((((((((((((((w3.setCell ⟨b0,0,none⟩ (.int .i64 0)).setCell ⟨b0,1,none⟩ (.bool false)).setCell ⟨b0,2,none⟩ (.int .i64 0)).setCell ⟨b0,3,none⟩ (.int .i64 0)).setCell ⟨b0,4,none⟩ (.int .i64 0)).setCell ⟨b0,5,none⟩ (.int .i64 0)).setCell ⟨b0,6,none⟩ (.int .i64 0)).setCell ⟨b0,7,none⟩ (.int .u64 0)).setCell ⟨b0,8,none⟩ (.int .i64 0)).setCell ⟨b0,9,none⟩ (.int .i64 0)).setCell ⟨b0,10,none⟩ (.int .u64 0)).setCell ⟨b0,11,none⟩ (.int .i64 0)).setCell ⟨b0,12,none⟩ (.int .u64 0)).setCell ⟨b0,13,none⟩ (.int .u64 0)).setCell ⟨b0,14,none⟩ (.int .i64 (-1)))=w6:=hw6
 have k:=y3.cell
 have kz:=y3.frozen
 have kl:=y3.lt
 have q:=HSA.1.cell
 have ql:=HSA.1.lt
 clear y3 HSA hC;go_wp2_with fail;exact bodyPost_ret (v:=.tuple #[.agg #[.int .i64 0,.bool false,.int .i64 0,.int .i64 0,.int .i64 0,.int .i64 0,.int .i64 0,.int .u64 0,.int .i64 0,.int .i64 0,.int .u64 0,.int .i64 0,.int .u64 0,.int .u64 0,.int .i64 (-1)],.bool false]) (by simp [results,Tryz.results78,go_sem,q]) rfl ⟨rfl,HF.out⟩
theorem inC_upd {F0 F':Nat→Prop} {Fn:Nat→Nat→Prop} {n i a b:Nat} (hi:i<n) (hF:∀k,F' k→Fn i k∨b≤k) (hab:a≤b) (k:Nat) (h:InC F0 (updN Fn i F') n k):InC F0 Fn n k∨a≤k:=by
 rcases h with h | ⟨j,hj,h⟩
 ·exact .inl (.inl h)
 ·unfold updN at h
  by_cases e:j=i
  ·rw [if_pos e] at h
   exact (hF k h).elim (fun h=>.inl (.inr ⟨i,hi,h⟩)) fun h=>.inr (by omega)
  ·rw [if_neg e] at h
   exact .inl (.inr ⟨j,hj,h⟩)
theorem out_upd {F0 F':Nat→Prop} {Fn:Nat→Nat→Prop} {n i a b:Nat} (hb:∀k,InC F0 Fn n k→k<a) (hF:∀k,F' k→Fn i k∨b≤k) (hab:a<b) (hi:i<n):¬InC F0 (updN Fn i F') n a:=by
 rintro (h | ⟨j,hj,h⟩)
 ·exact absurd (hb a (.inl h)) (Nat.lt_irrefl _)
 ·unfold updN at h
  by_cases e:j=i
  ·rw [if_pos e] at h
   exact (hF a h).elim (fun h=>absurd (hb a (.inr ⟨i,hi,h⟩)) (Nat.lt_irrefl _)) fun h=>by omega
  ·rw [if_neg e] at h
   exact absurd (hb a (.inr ⟨j,hj,h⟩)) (Nat.lt_irrefl _)
theorem crun_notZ {w:World} {F0:Nat→Prop} {Fn:Nat→Nat→Prop} {cb n sh:Nat} {nb:Nat→Nat} {x:Cst} {y:Nat→Nst} (h:QC w F0 Fn cb n sh nb x y) (hn:n≤16) (ht:x.tick≤1099511627776) (i:Nat) (hi:i<n) (pick:Int) (Z:Nst→Prop) (what:Int) (hw:what≠2) (done:Bool) (op rd rs rt im:Int) (pc:Int) (cause access:Int) (addr:Int) (size:Int) (old new ev:Int)
  (hT:∀w',RNAt w' (Fn i) (nb i) i n (y i).page (y i).s (y i).c (y i).ps→Calls Tryz.prog 99 #[.pointer (some ⟨nb i,0,none⟩),.int .i64 pick] w' (RetW (.agg #[.int .i64 what,.bool done,.int .i64 op,.int .i64 rd,.int .i64 rs,.int .i64 rt,.int .i64 im,.int .u64 pc,.int .i64 cause,.int .i64 access,.int .u64 addr,.int .i64 size,.int .u64 old,.int .u64 new,.int .i64 ev]) fun w''=>∃F' z,Z z∧RNAt w'' F' (nb i) i n z.page z.s z.c z.ps∧(∀k,F' k→Fn i k∨w'.heap.size≤k)∧Chg (Fn i) w' w'')) :
  Calls Tryz.prog 78 #[.pointer (some ⟨cb,0,none⟩),.int .i64 i,.int .i64 pick] w (RetW (.tuple #[.agg #[.int .i64 what,.bool done,.int .i64 op,.int .i64 rd,.int .i64 rs,.int .i64 rt,.int .i64 im,.int .u64 pc,.int .i64 cause,.int .i64 access,.int .u64 addr,.int .i64 size,.int .u64 old,.int .u64 new,.int .i64 ev],.bool true]) fun w'=>∃F0' Fn' z,Z z∧QC w' F0' Fn' cb n sh nb x (updN y i z)∧(∀k,InC F0' Fn' n k→InC F0 Fn n k∨w.heap.size≤k)∧Chg (InC F0 Fn n) w w'):=by
 have t1:(what == 2)=false:=by simpa using hw
 have t2:decide (what=2)=false:=decide_eq_false hw
 obtain ⟨v,bag,hB,-,-,-⟩:=h.own.ex
 have c0:=(Chg.refl NoB w).alloc (.cells #[.int .i64 0,.bool false,.int .i64 0,.int .i64 0,.int .i64 0,.int .i64 0,.int .i64 0,.int .u64 0,.int .i64 0,.int .i64 0,.int .u64 0,.int .i64 0,.int .u64 0,.int .u64 0,.int .i64 0] 86)
 have HB0:=Lib.hid (Blk.new w #[.int .i64 0,.bool false,.int .i64 0,.int .i64 0,.int .i64 0,.int .i64 0,.int .i64 0,.int .u64 0,.int .i64 0,.int .i64 0,.int .u64 0,.int .i64 0,.int .u64 0,.int .u64 0,.int .i64 0] 86)
 have HC:=Lib.hid c0
 have HN:=Lib.hid (qNode_in (h.own.chg0 c0) i hi)
 have HR:=Lib.hid (hT _ ((h.nd i hi).chg0 c0))
 have HH:=Lib.hid (And.intro h hn)
 have HTk:=Lib.hid ht
 clear h c0 hT hB ht;go_enter Tryz.func78,Tryz.ntmps78;go_wp2_with fail;with_reducible refine HN.out.mono ?_
 rintro e w2 ⟨rfl,rfl⟩;go_wp2_with fail;with_reducible refine HR.out.mono ?_
 rintro e w3 ⟨rfl,F',z,hZz,hR3,hF3,hC3⟩;have HZz:=Lib.hid hZz
 clear hZz;have hb3:=hC3.blk HB0.out fun e=>absurd ((HH.out.1.nd i hi).bd _ e) (Nat.lt_irrefl _)
 have HQ3:=Lib.hid (QC.node (HH.out.1.chg0 HC.out) hi hR3 hF3 hC3)
 have HF3:=Lib.hid hF3
 have HC3:=Lib.hid hC3
 have HZ3:=Lib.hid hC3.size
 clear hR3 hF3 hC3;have c4:=(Chg.refl NoB w3).alloc (.cells #[.int .i64 what,.bool done,.int .i64 op,.int .i64 rd,.int .i64 rs,.int .i64 rt,.int .i64 im,.int .u64 pc,.int .i64 cause,.int .i64 access,.int .u64 addr,.int .i64 size,.int .u64 old,.int .u64 new,.int .i64 ev] 86)
 have HQ4:=Lib.hid (HQ3.out.chg0 c4)
 have HB4:=Lib.hid (Blk.new w3 #[.int .i64 what,.bool done,.int .i64 op,.int .i64 rd,.int .i64 rs,.int .i64 rt,.int .i64 im,.int .u64 pc,.int .i64 cause,.int .i64 access,.int .u64 addr,.int .i64 size,.int .u64 old,.int .u64 new,.int .i64 ev] 86)
 have HC4:Hid (Chg (InC F0 Fn n) w (w3.alloc (.cells #[.int .i64 what,.bool done,.int .i64 op,.int .i64 rd,.int .i64 rs,.int .i64 rt,.int .i64 im,.int .u64 pc,.int .i64 cause,.int .i64 access,.int .u64 addr,.int .i64 size,.int .u64 old,.int .u64 new,.int .i64 ev] 86))):=Lib.hid ((HC.out.mono (fun _ _ e=>e.elim)).trans ((HC3.out.mono (S':=InC F0 Fn n) fun k _ e=>.inr ⟨i,hi,e⟩).trans c4 fun _ _ e=>e.elim) fun k _ e=>e)
 have HF4:Hid (∀k,InC F0 (updN Fn i F') n k→InC F0 Fn n k∨w.heap.size≤k):=Lib.hid (inC_upd hi HF3.out (by rw [World.size_alloc];omega))
 have HE4:=Lib.hid (c4.blk0 hb3)
 have HOut:Hid (¬InC F0 (updN Fn i F') n w.heap.size):=Lib.hid (out_upd (fun k hk=>hk.elim (fun e=>HH.out.1.own.bd k e) fun ⟨j,hj,e⟩=>(HH.out.1.nd j hj).bd k e) HF3.out (by rw [World.size_alloc];omega) hi)
 have HM:=Lib.hid (mail_quiet HQ4.out hn HTk.out i hi)
 obtain ⟨F0',hF0⟩:∃f,f=F0:=⟨_,rfl⟩
 rw [←hF0] at HQ4
 rw [show InC F0 (updN Fn i F') n=InC F0' (updN Fn i F') n from by rw [hF0]] at HF4 HOut
 clear c4 hF0;go_wp2_with fail;with_reducible refine HM.out.mono ?_
 rintro e w5 ⟨rfl,hC5⟩;have b5:=hC5.blk0 HB4.out
 have k5:=b5.cell
 have l5:=b5.lt
 have y3:=hC5.blk0 HE4.out
 have HSA:=store_all y3 [.int .i64 what,.bool done,.int .i64 op,.int .i64 rd,.int .i64 rs,.int .i64 rt,.int .i64 im,.int .u64 pc,.int .i64 cause,.int .i64 access,.int .u64 addr,.int .i64 size,.int .u64 old,.int .u64 new,.int .i64 ev] rfl
 have HF:Hid (QC (w5.setCells w.heap.size 0 [.int .i64 what,.bool done,.int .i64 op,.int .i64 rd,.int .i64 rs,.int .i64 rt,.int .i64 im,.int .u64 pc,.int .i64 cause,.int .i64 access,.int .u64 addr,.int .i64 size,.int .u64 old,.int .u64 new,.int .i64 ev]) F0' (updN Fn i F') cb n sh nb x (updN y i z)∧(∀k,InC F0' (updN Fn i F') n k→InC F0 Fn n k∨w.heap.size≤k)∧Chg (InC F0 Fn n) w (w5.setCells w.heap.size 0 [.int .i64 what,.bool done,.int .i64 op,.int .i64 rd,.int .i64 rs,.int .i64 rt,.int .i64 im,.int .u64 pc,.int .i64 cause,.int .i64 access,.int .u64 addr,.int .i64 size,.int .u64 old,.int .u64 new,.int .i64 ev])):=Lib.hid ⟨(HQ4.out.chg0 hC5).chg HSA.2 (fun k hk (e:k=w.heap.size)=>HOut.out (.inl (e▸hk))) (fun j k hj hk (e:k=w.heap.size)=>HOut.out (.inr ⟨j,hj,e▸hk⟩)),HF4.out,((HC4.out.trans hC5 fun _ _ e=>e.elim).mono (S':=fun k=>InC F0 Fn n k∨w.heap.size≤k) fun _ _ e=>.inl e).trans (HSA.2.mono (S':=fun k=>InC F0 Fn n k∨w.heap.size≤k) fun k _ e=>.inr (Nat.le_of_eq e.symm)) (fun k hk e=>e) |>.mono fun k hk e=>e.elim id fun e=>absurd e (Nat.not_le_of_lt hk)⟩
 clear HOut;generalize hzb:w.heap.size=b0 at *;have HZb:=Lib.hid hzb
 clear hzb;obtain ⟨w6,hw6⟩:∃x,w5.setCells b0 0 [.int .i64 what,.bool done,.int .i64 op,.int .i64 rd,.int .i64 rs,.int .i64 rt,.int .i64 im,.int .u64 pc,.int .i64 cause,.int .i64 access,.int .u64 addr,.int .i64 size,.int .u64 old,.int .u64 new,.int .i64 ev]=x:=⟨_,rfl⟩
 rw [hw6] at HF HSA
 replace hw6:(((((((((((((((w5.setCell ⟨b0,0,none⟩ (.int .i64 what)).setCell ⟨b0,1,none⟩ (.bool done)).setCell ⟨b0,2,none⟩ (.int .i64 op)).setCell ⟨b0,3,none⟩ (.int .i64 rd)).setCell ⟨b0,4,none⟩ (.int .i64 rs)).setCell ⟨b0,5,none⟩ (.int .i64 rt)).setCell ⟨b0,6,none⟩ (.int .i64 im)).setCell ⟨b0,7,none⟩ (.int .u64 pc)).setCell ⟨b0,8,none⟩ (.int .i64 cause)).setCell ⟨b0,9,none⟩ (.int .i64 access)).setCell ⟨b0,10,none⟩ (.int .u64 addr)).setCell ⟨b0,11,none⟩ (.int .i64 size)).setCell ⟨b0,12,none⟩ (.int .u64 old)).setCell ⟨b0,13,none⟩ (.int .u64 new)).setCell ⟨b0,14,none⟩ (.int .i64 ev))=w6:=hw6
 have k:=y3.cell
 have kz:=y3.frozen
 have kl:=y3.lt
 have q:=HSA.1.cell
 have ql:=HSA.1.lt
 clear y3 HSA hC5 b5 HE4;go_wp2_with fail;exact bodyPost_ret (v:=.tuple #[.agg #[.int .i64 what,.bool done,.int .i64 op,.int .i64 rd,.int .i64 rs,.int .i64 rt,.int .i64 im,.int .u64 pc,.int .i64 cause,.int .i64 access,.int .u64 addr,.int .i64 size,.int .u64 old,.int .u64 new,.int .i64 ev],.bool true]) (by simp [results,Tryz.results78,go_sem,q]) rfl ⟨rfl,F0',updN Fn i F',z,HZz.out,by rw [HZb.out];exact HF.out⟩
end Go.Proofs.YtjhnnjgnkkjmkaaGreatDoor
