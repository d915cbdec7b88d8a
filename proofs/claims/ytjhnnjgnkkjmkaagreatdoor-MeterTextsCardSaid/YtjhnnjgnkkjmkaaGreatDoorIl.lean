/- Meters: good acts. Printed by mk_q27.py. No condition. -/
import Derived.Test.YtjhnnjgnkkjmkaaGreatDoorIk
import Derived.Test.YtjhnnjgnkkjmkaaGreatDoorGd
set_option maxHeartbeats 4000000
set_option maxRecDepth 100000
set_option linter.unusedVariables false
set_option linter.unusedSimpArgs false
namespace Go.Proofs.YtjhnnjgnkkjmkaaGreatDoor
open Go.RowKit Go.RR
theorem mDo_ran {w:World} {mb cb:Nat} {t:Nat→Int} (hM:MtAt w mb cb t) (ht:∀k,0≤t k∧t k<1099511627776) (S:Nat→Prop) (hS:¬S mb) (hSb:∀k,S k→k<w.heap.size) (Q:World→Nat→Prop) (Q':World→Prop) (a b:Int) (done:Bool) (op rd rs rt im:Int) (pc:Int) (cause access:Int) (addr:Int) (size:Int) (old new ev:Int)
  (hP:∀w',Chg NoB w w'→Calls Tryz.prog 48 #[.pointer (some ⟨mb,0,none⟩),.agg #[.int .i64 0,.int .i64 a,.int .i64 b]] w' (RetW (.tuple #[.agg #[.int .i64 0,.int .i64 0,.slice none 0 0,.bool false],.bool false]) fun w''=>Chg NoB w' w''))
  (hD:∀w',Chg NoB w w'→Calls Tryz.prog 49 #[.pointer (some ⟨cb,0,none⟩),.agg #[.int .i64 0,.int .i64 a,.int .i64 b]] w' (RetW (.tuple #[.agg #[.int .i64 2,.bool done,.int .i64 op,.int .i64 rd,.int .i64 rs,.int .i64 rt,.int .i64 im,.int .u64 pc,.int .i64 cause,.int .i64 access,.int .u64 addr,.int .i64 size,.int .u64 old,.int .u64 new,.int .i64 ev],.bool true]) fun w''=>Q w'' w'.heap.size∧Chg S w' w''))
  (hQ:∀w1 w2 b,Q w1 b→Chg (fun k=>k=mb∨(w.heap.size≤k∧k<b)) w1 w2→Q' w2) :
  Calls Tryz.prog 31 #[.pointer (some ⟨mb,0,none⟩),.agg #[.int .i64 0,.int .i64 a,.int .i64 b]] w (RetW (.tuple #[.agg #[.int .i64 2,.bool done,.int .i64 op,.int .i64 rd,.int .i64 rs,.int .i64 rt,.int .i64 im,.int .u64 pc,.int .i64 cause,.int .i64 access,.int .u64 addr,.int .i64 size,.int .u64 old,.int .u64 new,.int .i64 ev],.bool true]) fun w'=>MtAt w' mb cb (updN (updN t 2 (t 2+1)) 5 ((updN t 2 (t 2+1)) 5+1))∧Q' w'∧Chg (fun k=>S k∨k=mb) w w'):=by
 have HP:=Lib.hid hP
 have HD:=Lib.hid hD
 have HQ:=Lib.hid hQ
 have HS:=Lib.hid hS
 have c0:=((Chg.refl NoB w).alloc (.cells #[.int .i64 0,.int .i64 a,.int .i64 b] 57)).alloc (.cells #[.int .i64 0,.bool false,.int .i64 0,.int .i64 0,.int .i64 0,.int .i64 0,.int .i64 0,.int .u64 0,.int .i64 0,.int .i64 0,.int .u64 0,.int .i64 0,.int .u64 0,.int .u64 0,.int .i64 0] 86)
 have HC:=Lib.hid c0
 have hB0:=Blk.new (w.alloc (.cells #[.int .i64 0,.int .i64 a,.int .i64 b] 57)) #[.int .i64 0,.bool false,.int .i64 0,.int .i64 0,.int .i64 0,.int .i64 0,.int .i64 0,.int .u64 0,.int .i64 0,.int .i64 0,.int .u64 0,.int .i64 0,.int .u64 0,.int .u64 0,.int .i64 0] 86
 have hA0:=(Blk.new w #[.int .i64 0,.int .i64 a,.int .i64 b] 57).alloc (.cells #[.int .i64 0,.bool false,.int .i64 0,.int .i64 0,.int .i64 0,.int .i64 0,.int .i64 0,.int .u64 0,.int .i64 0,.int .i64 0,.int .u64 0,.int .i64 0,.int .u64 0,.int .u64 0,.int .i64 0] 86)
 rw [World.size_alloc] at hB0
 have HM:=Lib.hid (c0.blk0 hM)
 generalize hw1:(w.alloc (.cells #[.int .i64 0,.int .i64 a,.int .i64 b] 57)).alloc (.cells #[.int .i64 0,.bool false,.int .i64 0,.int .i64 0,.int .i64 0,.int .i64 0,.int .i64 0,.int .u64 0,.int .i64 0,.int .i64 0,.int .u64 0,.int .i64 0,.int .u64 0,.int .u64 0,.int .i64 0] 86)=w1 at *;have HB:=Lib.hid hB0
 have HA:=Lib.hid hA0
 have k1:=hA0.cell
 have k1l:=hA0.lt
 have HP1:=Lib.hid (HP.out w1 HC.out)
 clear c0 hB0 hA0 hP hD hQ hS hM;go_enter Tryz.func31,Tryz.ntmps31;go_wp2_with fail;with_reducible refine HP1.out.mono ?_
 rintro e w2 ⟨rfl,hC2⟩;have c2:=(hC2.alloc (.cells #[.int .i64 0,.int .i64 0,.slice none 0 0,.bool false] 126))
 have HC2:=Lib.hid (HC.out.step c2)
 have HA2:=Lib.hid (c2.blk0 HA.out)
 have HB2:=Lib.hid (c2.blk0 HB.out)
 have HM2:=Lib.hid (c2.blk0 HM.out)
 clear c2 hC2 k1 k1l HC HA HB HM HP1 HP hw1;go_upto_region 4 with fail;generalize hw3:w2.alloc (.cells #[.int .i64 0,.int .i64 0,.slice none 0 0,.bool false] 126)=w3 at *;clear hw3;have HDw:=Lib.hid fun w' (k:Chg NoB w3 w')=>HD.out w' (HC2.out.step k)
 have HZ:=Lib.hid (And.intro HC2.out.size (And.intro HB2.out.lt hSb))
 have HC:Hid (Chg NoB w3 w3):=Lib.hid (Chg.refl _ _)
 have HM:=Lib.hid HM2.out
 have HA:=Lib.hid HA2.out
 have HB:=Lib.hid HB2.out
 clear HD hSb;go_cut [8,9] (fun s8 s9 wx=>∃(vb bn:Nat) (w4:World),s8 = .pointer (some ⟨vb,0,none⟩)∧s9 = .bool true∧Blk wx vb #[.int .i64 2,.bool done,.int .i64 op,.int .i64 rd,.int .i64 rs,.int .i64 rt,.int .i64 im,.int .u64 pc,.int .i64 cause,.int .i64 access,.int .u64 addr,.int .i64 size,.int .u64 old,.int .u64 new,.int .i64 ev] 86∧Q w4 bn∧w3.heap.size≤bn∧w3.heap.size≤vb∧Chg (fun k=>w3.heap.size≤k∧k<bn) w4 wx∧Chg S w3 wx∧MtAt wx mb cb t∧Blk wx w.heap.size #[.int .i64 0,.int .i64 a,.int .i64 b] 57∧Blk wx (w.heap.size+1) #[.int .i64 0,.bool false,.int .i64 0,.int .i64 0,.int .i64 0,.int .i64 0,.int .i64 0,.int .u64 0,.int .i64 0,.int .i64 0,.int .u64 0,.int .i64 0,.int .u64 0,.int .u64 0,.int .i64 0] 86)
 case first=>
  have hr:∀(k:Nat),k<w3.heap.size→¬S k→¬(S k∨w3.heap.size≤k):=fun k h1 h2 e=>e.elim h2 fun e=>by omega
  have m0:∀w',Chg (fun k=>S k∨w3.heap.size≤k) w3 w'→w'.cell? ⟨mb,0,none⟩=some (.pointer (some ⟨cb,0,none⟩)):=fun w' k=>(k.blk HM.out (hr _ HM.out.lt HS.out)).cell' (i:=0) rfl
  have ml:∀w',Chg (fun k=>S k∨w3.heap.size≤k) w3 w'→mb<w'.heap.size:=fun w' k=>(k.blk HM.out (hr _ HM.out.lt HS.out)).lt
  have hna:¬S w.heap.size:=fun e=>absurd (HZ.out.2.2 _ e) (Nat.lt_irrefl _)
  have a0:∀w',Chg (fun k=>S k∨w3.heap.size≤k) w3 w'→∀i,w'.cell? ⟨w.heap.size,i,none⟩=_:=fun w' k i=>(k.blk HA.out (hr _ HA.out.lt hna)).cell i
  have al:∀w',Chg (fun k=>S k∨w3.heap.size≤k) w3 w'→w.heap.size<w'.heap.size:=fun w' k=>(k.blk HA.out (hr _ HA.out.lt hna)).lt
  have cs:=Chg.refl (fun k=>S k∨w3.heap.size≤k) w3
  have cn:=Chg.refl NoB w3
  go_region_held3 (fun w'=>Chg (fun k=>S k∨w3.heap.size≤k) w3 w') ((repeat (first | with_reducible assumption | with_reducible apply Chg.drew | with_reducible apply Chg.drewN | with_reducible apply Chg.alloc | with_reducible refine Chg.setCell ?_ (.inl (.inr (Nat.le_refl _))) _))) (first | (go_at_call 49;(with_reducible refine (HDw.out _ (by (repeat (first | with_reducible assumption | with_reducible apply Chg.drew | with_reducible apply Chg.drewN | with_reducible apply Chg.alloc)))).mono ?_);rintro e w4 ⟨rfl,hQ4,hC4⟩;have h4:Chg (fun k=>S k∨w3.heap.size≤k) w3 w4:=Chg.trans (S:=fun k=>S k∨w3.heap.size≤k) (by with_reducible assumption) (hC4.mono fun _ _ e=>.inl e) (fun _ _ e=>e);try (have hv:=hC4.blk (Blk.new w3 #[.int .i64 0,.bool false,.int .i64 0,.int .i64 0,.int .i64 0,.int .i64 0,.int .i64 0,.int .u64 0,.int .i64 0,.int .i64 0,.int .u64 0,.int .i64 0,.int .u64 0,.int .u64 0,.int .i64 0] 86).drew (fun e=>by have h1:=HZ.out.2.2 _ e;have h2:=HZ.out.1;omega);have hv1:=hv.cell;have hv2:=hv.frozen;have hv3:=hv.lt)))
  ·have hS3:Chg S w3 w4:=((Chg.refl NoB w3).drew.mono fun _ _ e=>e.elim).trans hC4 fun _ _ e=>e
   have hz:=hS3.size
   have hW:=hS3.alloc (.cells #[.int .i64 2,.bool done,.int .i64 op,.int .i64 rd,.int .i64 rs,.int .i64 rt,.int .i64 im,.int .u64 pc,.int .i64 cause,.int .i64 access,.int .u64 addr,.int .i64 size,.int .u64 old,.int .u64 new,.int .i64 ev] 86)
   have HE:=Lib.hid (And.intro (hW.blk HM.out HS.out) (And.intro (hW.blk HA.out hna) (And.intro (hW.blk HB.out (fun e=>absurd (HZ.out.2.2 _ e) (by omega))) (And.intro hW (And.intro hQ4 hz)))))
   clear hS3 hz hW hQ4 hC4 h4 m0 ml a0 al cs cn hr hna;go_wp2_with fail;go_meet
   exact ⟨w4.heap.size,w3.heap.size,w4,rfl,rfl,Blk.new w4 _ _,HE.out.2.2.2.2.1,Nat.le_refl _,HE.out.2.2.2.2.2,(Chg.refl _ w4).alloc _,HE.out.2.2.2.1,HE.out.1,HE.out.2.1,HE.out.2.2.1⟩
  ·have hS3:Chg S w3 w4:=((((Chg.refl NoB w3).alloc (.cells #[.int .i64 0,.bool false,.int .i64 0,.int .i64 0,.int .i64 0,.int .i64 0,.int .i64 0,.int .u64 0,.int .i64 0,.int .i64 0,.int .u64 0,.int .i64 0,.int .u64 0,.int .u64 0,.int .i64 0] 86)).drew).mono fun _ _ e=>e.elim).trans hC4 fun _ _ e=>e
   have hz:=hS3.size
   have hS1:=store_all hv [.int .i64 2,.bool done,.int .i64 op,.int .i64 rd,.int .i64 rs,.int .i64 rt,.int .i64 im,.int .u64 pc,.int .i64 cause,.int .i64 access,.int .u64 addr,.int .i64 size,.int .u64 old,.int .u64 new,.int .i64 ev] rfl
   have hW:Chg S w3 (w4.setCells w3.heap.size 0 [.int .i64 2,.bool done,.int .i64 op,.int .i64 rd,.int .i64 rs,.int .i64 rt,.int .i64 im,.int .u64 pc,.int .i64 cause,.int .i64 access,.int .u64 addr,.int .i64 size,.int .u64 old,.int .u64 new,.int .i64 ev]):=chg_fresh hS3 hS1.2 (Nat.le_refl _)
   have hQ5:Q w4 (w3.heap.size+1):=by
    have e:((w3.alloc (.cells #[.int .i64 0,.bool false,.int .i64 0,.int .i64 0,.int .i64 0,.int .i64 0,.int .i64 0,.int .u64 0,.int .i64 0,.int .i64 0,.int .u64 0,.int .i64 0,.int .u64 0,.int .u64 0,.int .i64 0] 86)).drew).heap.size=w3.heap.size+1:=World.size_alloc ..
    rw [e] at hQ4
    exact hQ4
   have HE:=Lib.hid (And.intro (hW.blk HM.out HS.out) (And.intro (hW.blk HA.out hna) (And.intro (hW.blk HB.out (fun e=>absurd (HZ.out.2.2 _ e) (by omega))) (And.intro hW (And.intro hQ5 (And.intro hS1.1 (hS1.2.mono (S':=fun k=>w3.heap.size≤k∧k<w3.heap.size+1) fun k _ e=>by have:k=w3.heap.size:=e;omega)))))))
   obtain ⟨wS,hwS⟩:∃x,w4.setCells w3.heap.size 0 [.int .i64 2,.bool done,.int .i64 op,.int .i64 rd,.int .i64 rs,.int .i64 rt,.int .i64 im,.int .u64 pc,.int .i64 cause,.int .i64 access,.int .u64 addr,.int .i64 size,.int .u64 old,.int .u64 new,.int .i64 ev]=x:=⟨_,rfl⟩
   rw [hwS] at HE
   replace hwS:((((((((((((((w4.setCell ⟨w3.heap.size,0,none⟩ (.int .i64 2)).setCell ⟨w3.heap.size,1,none⟩ (.bool done)).setCell ⟨w3.heap.size,2,none⟩ (.int .i64 op)).setCell ⟨w3.heap.size,3,none⟩ (.int .i64 rd)).setCell ⟨w3.heap.size,4,none⟩ (.int .i64 rs)).setCell ⟨w3.heap.size,5,none⟩ (.int .i64 rt)).setCell ⟨w3.heap.size,6,none⟩ (.int .i64 im)).setCell ⟨w3.heap.size,7,none⟩ (.int .u64 pc)).setCell ⟨w3.heap.size,8,none⟩ (.int .i64 cause)).setCell ⟨w3.heap.size,9,none⟩ (.int .i64 access)).setCell ⟨w3.heap.size,10,none⟩ (.int .u64 addr)).setCell ⟨w3.heap.size,11,none⟩ (.int .i64 size)).setCell ⟨w3.heap.size,12,none⟩ (.int .u64 old)).setCell ⟨w3.heap.size,13,none⟩ (.int .u64 new)).setCell ⟨w3.heap.size,14,none⟩ (.int .i64 ev)=wS:=hwS
   clear hS3 hz hW hQ4 hQ5 hC4 h4 m0 ml a0 al cs cn hr hna hS1 hv hv1 hv2 hv3;try simp only [hwS]
   go_wp2_with fail;go_meet
   exact ⟨w3.heap.size,w3.heap.size+1,w4,rfl,rfl,HE.out.2.2.2.2.2.1,HE.out.2.2.2.2.1,by omega,Nat.le_refl _,HE.out.2.2.2.2.2.2,HE.out.2.2.2.1,HE.out.1,HE.out.2.1,HE.out.2.2.1⟩
 case rest=>
  obtain ⟨vb,bn,w4,rfl,rfl,hV,hQ4,hbn,hvb,hC4,hS4,hM4,hA4,hB4⟩:=hcut
  have n1:=blk_type hM4 hB4 (by decide)
  have n2:=blk_type hM4 hV (by decide)
  have z1:=HZ.out.1
  have z2:=HZ.out.2.1
  have C0w:=hC4
  have HG:=Lib.hid (And.intro hQ4 (And.intro hbn (And.intro hvb (And.intro hS4 (And.intro z1 z2)))))
  have HT:=Lib.hid ht
  have n3:¬vb=w.heap.size+1:=by omega
  clear hQ4 hbn hvb hS4 z1 z2 ht;have HM4:=Lib.hid hM4
  have HV4:=Lib.hid hV
  have HB4x:=Lib.hid hB4
  have HA4x:=Lib.hid hA4
  have HW4:Hid (Chg (fun k=>k=mb∨(w3.heap.size≤k∧k<bn)) w4 wc):=Lib.hid (hC4.mono fun _ _ e=>.inr e)
  have HWX:Hid (Chg (fun k=>S k∨k=mb) w3 wc):=Lib.hid (HG.out.2.2.2.1.mono fun _ _ e=>.inl e)
  clear hM4 hV hB4 hA4 hC4 C0w HM HA HB HC HDw HA2 HB2 HM2;have n4:¬w.heap.size=mb:=blk_type HA4x.out HM4.out (by decide)
  have g0:=fun w' (c:Chg NoB wc w')=>(c.blk0 HM4.out).cell
  have gl0:=fun w' (c:Chg NoB wc w')=>(c.blk0 HM4.out).lt
  have a0:=fun w' (c:Chg NoB wc w')=>(c.blk0 HA4x.out).cell
  have al0:=fun w' (c:Chg NoB wc w')=>(c.blk0 HA4x.out).lt
  have v0:=fun w' (c:Chg NoB wc w')=>(c.blk0 HV4.out).cell
  have vl0:=fun w' (c:Chg NoB wc w')=>(c.blk0 HV4.out).lt
  have cc:=Chg.refl NoB wc
  have e0:IntKind.i64.wrap (t 2+1)=t 2+1:=IntWalk.i64_in _ (by have:=HT.out 2;omega)
  go_upto_region 9 with fail;have cd:Chg NoB wc wc.drew:=cc.drew
  refine wp_region_mix 13 [(true,0),(true,1),(true,2),(true,3),(true,4),(true,5),(true,6),(true,7),(true,8),(true,9),(true,10),(true,11),(true,12)] (fun w'=>Chg NoB wc w') (by kernel_rfl) (by kernel_rfl) (fun _ _ _ _ _ h=>h) (cc.drew) ?_
  simp only [pickMix_nil,pickMix_cons,Option.getD_some,List.getElem?_toArray,List.getElem?_cons_zero,List.getElem?_cons_succ,List.cons_append,List.nil_append,List.drop_succ_cons,List.drop_zero]
  iterate 13
   refine wpMix_take rfl ?_;apply Exists.intro;refine ⟨fun wS hS=>?_,?_⟩
   ·try dsimp only at hS
    have cS:=hS
    go_simp;try rfl
   simp only [Act.put,List.setIfInBounds_toArray,List.set_cons_zero,List.set_cons_succ]
  refine wpMix_nil ?_
  clear g0 gl0 a0 al0 v0 vl0 cc;replace HM4:=Lib.hid (cd.blk0 HM4.out)
  replace HV4:=Lib.hid (cd.blk0 HV4.out)
  replace HB4x:=Lib.hid (cd.blk0 HB4x.out)
  replace HA4x:=Lib.hid (cd.blk0 HA4x.out)
  replace HW4:=Lib.hid (HW4.out.trans (cd.mono fun _ _ e=>e.elim) fun _ _ e=>e)
  replace HWX:=Lib.hid (HWX.out.trans (cd.mono fun _ _ e=>e.elim) fun _ _ e=>e)
  clear cd;generalize wc.drew=wd0 at *;have C6:Chg (fun k=>k=mb) wd0 (wd0.setCell ⟨mb,3,none⟩ (.int .i64 (t 2+1))):=(Chg.refl (fun k=>k=mb) wd0).setCell (a:=⟨mb,3,none⟩) (.inl rfl) _
  have h6:MtAt (wd0.setCell ⟨mb,3,none⟩ (.int .i64 (t 2+1))) mb cb (updN t 2 (t 2+1)):=HM4.out.set 3 (.int .i64 (t 2+1))
  have k0:=HM4.out.cell
  have kz:=HM4.out.frozen
  have kl:=HM4.out.lt
  obtain ⟨we0,hw0⟩:∃x,wd0.setCell ⟨mb,3,none⟩ (.int .i64 (t 2+1))=x:=⟨_,rfl⟩
  rw [hw0] at C6 h6
  replace HM4:=Lib.hid h6
  replace HV4:=Lib.hid (C6.blk HV4.out (fun e=>n2 e.symm))
  replace HB4x:=Lib.hid (C6.blk HB4x.out (fun e=>n1 e.symm))
  replace HA4x:=Lib.hid (C6.blk HA4x.out n4)
  replace HW4:=Lib.hid (HW4.out.trans (C6.mono fun _ _ e=>.inl e) fun _ _ e=>e)
  replace HWX:=Lib.hid (HWX.out.trans (C6.mono fun _ _ e=>.inr e) fun _ _ e=>e)
  clear C6 h6;have HTn:Hid (∀k,0≤(updN t 2 (t 2+1)) k∧(updN t 2 (t 2+1)) k<1099511627777):=Lib.hid fun k=>by
   unfold updN
   by_cases h:k=2
   ·rw [if_pos h];have:=HT.out 2;exact ⟨by omega,by omega⟩
   ·rw [if_neg h];have:=HT.out k;exact ⟨this.1,by omega⟩
  clear HT;have HT:=HTn
  clear HTn;have g1:=fun w' (c:Chg NoB we0 w')=>(c.blk0 HM4.out).cell
  have gl1:=fun w' (c:Chg NoB we0 w')=>(c.blk0 HM4.out).lt
  have a1:=fun w' (c:Chg NoB we0 w')=>(c.blk0 HA4x.out).cell
  have al1:=fun w' (c:Chg NoB we0 w')=>(c.blk0 HA4x.out).lt
  have v1:=fun w' (c:Chg NoB we0 w')=>(c.blk0 HV4.out).cell
  have vl1:=fun w' (c:Chg NoB we0 w')=>(c.blk0 HV4.out).lt
  have cc:=Chg.refl NoB we0
  have e1:IntKind.i64.wrap ((updN t 2 (t 2+1)) 5+1)=(updN t 2 (t 2+1)) 5+1:=IntWalk.i64_in _ (by have:=HT.out 5;omega)
  go_upto_region 12 with fail;have cd:Chg NoB we0 we0.drew:=cc.drew
  refine wp_region_mix 13 [(true,0),(true,1),(true,2),(true,3),(true,4),(true,5),(true,6),(true,7),(true,8),(true,9),(true,10),(true,11),(true,12)] (fun w'=>Chg NoB we0 w') (by kernel_rfl) (by kernel_rfl) (fun _ _ _ _ _ h=>h) (cc.drew) ?_
  simp only [pickMix_nil,pickMix_cons,Option.getD_some,List.getElem?_toArray,List.getElem?_cons_zero,List.getElem?_cons_succ,List.cons_append,List.nil_append,List.drop_succ_cons,List.drop_zero]
  iterate 13
   refine wpMix_take rfl ?_;apply Exists.intro;refine ⟨fun wS hS=>?_,?_⟩
   ·try dsimp only at hS
    have cS:=hS
    go_simp;try rfl
   simp only [Act.put,List.setIfInBounds_toArray,List.set_cons_zero,List.set_cons_succ]
  refine wpMix_nil ?_
  clear g1 gl1 a1 al1 v1 vl1 cc;replace HM4:=Lib.hid (cd.blk0 HM4.out)
  replace HV4:=Lib.hid (cd.blk0 HV4.out)
  replace HB4x:=Lib.hid (cd.blk0 HB4x.out)
  replace HA4x:=Lib.hid (cd.blk0 HA4x.out)
  replace HW4:=Lib.hid (HW4.out.trans (cd.mono fun _ _ e=>e.elim) fun _ _ e=>e)
  replace HWX:=Lib.hid (HWX.out.trans (cd.mono fun _ _ e=>e.elim) fun _ _ e=>e)
  clear cd;generalize we0.drew=wd1 at *;have C6:Chg (fun k=>k=mb) wd1 (wd1.setCell ⟨mb,6,none⟩ (.int .i64 ((updN t 2 (t 2+1)) 5+1))):=(Chg.refl (fun k=>k=mb) wd1).setCell (a:=⟨mb,6,none⟩) (.inl rfl) _
  have h6:MtAt (wd1.setCell ⟨mb,6,none⟩ (.int .i64 ((updN t 2 (t 2+1)) 5+1))) mb cb (updN (updN t 2 (t 2+1)) 5 ((updN t 2 (t 2+1)) 5+1)):=HM4.out.set 6 (.int .i64 ((updN t 2 (t 2+1)) 5+1))
  have k0:=HM4.out.cell
  have kz:=HM4.out.frozen
  have kl:=HM4.out.lt
  obtain ⟨we1,hw1⟩:∃x,wd1.setCell ⟨mb,6,none⟩ (.int .i64 ((updN t 2 (t 2+1)) 5+1))=x:=⟨_,rfl⟩
  rw [hw1] at C6 h6
  replace HM4:=Lib.hid h6
  replace HV4:=Lib.hid (C6.blk HV4.out (fun e=>n2 e.symm))
  replace HB4x:=Lib.hid (C6.blk HB4x.out (fun e=>n1 e.symm))
  replace HA4x:=Lib.hid (C6.blk HA4x.out n4)
  replace HW4:=Lib.hid (HW4.out.trans (C6.mono fun _ _ e=>.inl e) fun _ _ e=>e)
  replace HWX:=Lib.hid (HWX.out.trans (C6.mono fun _ _ e=>.inr e) fun _ _ e=>e)
  clear C6 h6;have HS2:=store_all HB4x.out [.int .i64 2,.bool done,.int .i64 op,.int .i64 rd,.int .i64 rs,.int .i64 rt,.int .i64 im,.int .u64 pc,.int .i64 cause,.int .i64 access,.int .u64 addr,.int .i64 size,.int .u64 old,.int .u64 new,.int .i64 ev] rfl
  have hM8:=HS2.2.blk HM4.out n1
  have hz4:=HW4.out.size
  have hq:=HQ.out w4 _ bn HG.out.1 ((HW4.out.mono (S':=fun k=>k=mb∨w.heap.size≤k∧k<bn) fun k _ e=>e.imp id fun e=>⟨by have:=HG.out.2.2.2.2.1;omega,e.2⟩).trans (HS2.2.mono (S':=fun k=>k=mb∨w.heap.size≤k∧k<bn) fun k _ e=>.inr (by have:k=w.heap.size+1:=e;have:=HG.out.2.1;have:=HG.out.2.2.2.2.2;omega)) fun _ _ e=>e)
  have hW:=chg_fresh ((HC2.out.mono (S':=fun k=>S k∨k=mb) fun _ _ e=>e.elim).trans HWX.out fun _ _ e=>e) HS2.2 (by omega)
  have HF:=Lib.hid (And.intro hM8 (And.intro hq hW))
  obtain ⟨w8,hw8⟩:∃x,we1.setCells (w.heap.size+1) 0 [.int .i64 2,.bool done,.int .i64 op,.int .i64 rd,.int .i64 rs,.int .i64 rt,.int .i64 im,.int .u64 pc,.int .i64 cause,.int .i64 access,.int .u64 addr,.int .i64 size,.int .u64 old,.int .u64 new,.int .i64 ev]=x:=⟨_,rfl⟩
  rw [hw8] at HF HS2
  replace hw8:((((((((((((((we1.setCell ⟨w.heap.size+1,0,none⟩ (.int .i64 2)).setCell ⟨w.heap.size+1,1,none⟩ (.bool done)).setCell ⟨w.heap.size+1,2,none⟩ (.int .i64 op)).setCell ⟨w.heap.size+1,3,none⟩ (.int .i64 rd)).setCell ⟨w.heap.size+1,4,none⟩ (.int .i64 rs)).setCell ⟨w.heap.size+1,5,none⟩ (.int .i64 rt)).setCell ⟨w.heap.size+1,6,none⟩ (.int .i64 im)).setCell ⟨w.heap.size+1,7,none⟩ (.int .u64 pc)).setCell ⟨w.heap.size+1,8,none⟩ (.int .i64 cause)).setCell ⟨w.heap.size+1,9,none⟩ (.int .i64 access)).setCell ⟨w.heap.size+1,10,none⟩ (.int .u64 addr)).setCell ⟨w.heap.size+1,11,none⟩ (.int .i64 size)).setCell ⟨w.heap.size+1,12,none⟩ (.int .u64 old)).setCell ⟨w.heap.size+1,13,none⟩ (.int .u64 new)).setCell ⟨w.heap.size+1,14,none⟩ (.int .i64 ev)=w8:=hw8
  have y0:=HV4.out.cell
  have yl:=HV4.out.lt
  have y6:=HB4x.out.cell
  have y7:=HB4x.out.frozen
  have y8:=HB4x.out.lt
  have q:=HS2.1.cell
  have ql:=HS2.1.lt
  clear HS2 hM8 hq hW hz4 n1 n2 n3 n4 HM4 HV4 HB4x HA4x HW4 HWX HG HT HZ HC2;go_wp2_with fail;exact bodyPost_ret (v:=.tuple #[.agg #[.int .i64 2,.bool done,.int .i64 op,.int .i64 rd,.int .i64 rs,.int .i64 rt,.int .i64 im,.int .u64 pc,.int .i64 cause,.int .i64 access,.int .u64 addr,.int .i64 size,.int .u64 old,.int .u64 new,.int .i64 ev],.bool true]) (by simp [results,Tryz.results31,go_sem,q]) rfl ⟨rfl,HF.out.1,HF.out.2.1,HF.out.2.2⟩
theorem mDo_flt {w:World} {mb cb:Nat} {t:Nat→Int} (hM:MtAt w mb cb t) (ht:∀k,0≤t k∧t k<1099511627776) (S:Nat→Prop) (hS:¬S mb) (hSb:∀k,S k→k<w.heap.size) (Q:World→Nat→Prop) (Q':World→Prop) (a b:Int) (done:Bool) (op rd rs rt im:Int) (pc:Int) (cause access:Int) (addr:Int) (size:Int) (old new ev:Int)
  (hP:∀w',Chg NoB w w'→Calls Tryz.prog 48 #[.pointer (some ⟨mb,0,none⟩),.agg #[.int .i64 0,.int .i64 a,.int .i64 b]] w' (RetW (.tuple #[.agg #[.int .i64 0,.int .i64 0,.slice none 0 0,.bool false],.bool false]) fun w''=>Chg NoB w' w''))
  (hD:∀w',Chg NoB w w'→Calls Tryz.prog 49 #[.pointer (some ⟨cb,0,none⟩),.agg #[.int .i64 0,.int .i64 a,.int .i64 b]] w' (RetW (.tuple #[.agg #[.int .i64 3,.bool done,.int .i64 op,.int .i64 rd,.int .i64 rs,.int .i64 rt,.int .i64 im,.int .u64 pc,.int .i64 cause,.int .i64 access,.int .u64 addr,.int .i64 size,.int .u64 old,.int .u64 new,.int .i64 ev],.bool true]) fun w''=>Q w'' w'.heap.size∧Chg S w' w''))
  (hQ:∀w1 w2 b,Q w1 b→Chg (fun k=>k=mb∨(w.heap.size≤k∧k<b)) w1 w2→Q' w2) :
  Calls Tryz.prog 31 #[.pointer (some ⟨mb,0,none⟩),.agg #[.int .i64 0,.int .i64 a,.int .i64 b]] w (RetW (.tuple #[.agg #[.int .i64 3,.bool done,.int .i64 op,.int .i64 rd,.int .i64 rs,.int .i64 rt,.int .i64 im,.int .u64 pc,.int .i64 cause,.int .i64 access,.int .u64 addr,.int .i64 size,.int .u64 old,.int .u64 new,.int .i64 ev],.bool true]) fun w'=>MtAt w' mb cb (updN (updN t 3 (t 3+1)) 5 ((updN t 3 (t 3+1)) 5+1))∧Q' w'∧Chg (fun k=>S k∨k=mb) w w'):=by
 have HP:=Lib.hid hP
 have HD:=Lib.hid hD
 have HQ:=Lib.hid hQ
 have HS:=Lib.hid hS
 have c0:=((Chg.refl NoB w).alloc (.cells #[.int .i64 0,.int .i64 a,.int .i64 b] 57)).alloc (.cells #[.int .i64 0,.bool false,.int .i64 0,.int .i64 0,.int .i64 0,.int .i64 0,.int .i64 0,.int .u64 0,.int .i64 0,.int .i64 0,.int .u64 0,.int .i64 0,.int .u64 0,.int .u64 0,.int .i64 0] 86)
 have HC:=Lib.hid c0
 have hB0:=Blk.new (w.alloc (.cells #[.int .i64 0,.int .i64 a,.int .i64 b] 57)) #[.int .i64 0,.bool false,.int .i64 0,.int .i64 0,.int .i64 0,.int .i64 0,.int .i64 0,.int .u64 0,.int .i64 0,.int .i64 0,.int .u64 0,.int .i64 0,.int .u64 0,.int .u64 0,.int .i64 0] 86
 have hA0:=(Blk.new w #[.int .i64 0,.int .i64 a,.int .i64 b] 57).alloc (.cells #[.int .i64 0,.bool false,.int .i64 0,.int .i64 0,.int .i64 0,.int .i64 0,.int .i64 0,.int .u64 0,.int .i64 0,.int .i64 0,.int .u64 0,.int .i64 0,.int .u64 0,.int .u64 0,.int .i64 0] 86)
 rw [World.size_alloc] at hB0
 have HM:=Lib.hid (c0.blk0 hM)
 generalize hw1:(w.alloc (.cells #[.int .i64 0,.int .i64 a,.int .i64 b] 57)).alloc (.cells #[.int .i64 0,.bool false,.int .i64 0,.int .i64 0,.int .i64 0,.int .i64 0,.int .i64 0,.int .u64 0,.int .i64 0,.int .i64 0,.int .u64 0,.int .i64 0,.int .u64 0,.int .u64 0,.int .i64 0] 86)=w1 at *;have HB:=Lib.hid hB0
 have HA:=Lib.hid hA0
 have k1:=hA0.cell
 have k1l:=hA0.lt
 have HP1:=Lib.hid (HP.out w1 HC.out)
 clear c0 hB0 hA0 hP hD hQ hS hM;go_enter Tryz.func31,Tryz.ntmps31;go_wp2_with fail;with_reducible refine HP1.out.mono ?_
 rintro e w2 ⟨rfl,hC2⟩;have c2:=(hC2.alloc (.cells #[.int .i64 0,.int .i64 0,.slice none 0 0,.bool false] 126))
 have HC2:=Lib.hid (HC.out.step c2)
 have HA2:=Lib.hid (c2.blk0 HA.out)
 have HB2:=Lib.hid (c2.blk0 HB.out)
 have HM2:=Lib.hid (c2.blk0 HM.out)
 clear c2 hC2 k1 k1l HC HA HB HM HP1 HP hw1;go_upto_region 4 with fail;generalize hw3:w2.alloc (.cells #[.int .i64 0,.int .i64 0,.slice none 0 0,.bool false] 126)=w3 at *;clear hw3;have HDw:=Lib.hid fun w' (k:Chg NoB w3 w')=>HD.out w' (HC2.out.step k)
 have HZ:=Lib.hid (And.intro HC2.out.size (And.intro HB2.out.lt hSb))
 have HC:Hid (Chg NoB w3 w3):=Lib.hid (Chg.refl _ _)
 have HM:=Lib.hid HM2.out
 have HA:=Lib.hid HA2.out
 have HB:=Lib.hid HB2.out
 clear HD hSb;go_cut [8,9] (fun s8 s9 wx=>∃(vb bn:Nat) (w4:World),s8 = .pointer (some ⟨vb,0,none⟩)∧s9 = .bool true∧Blk wx vb #[.int .i64 3,.bool done,.int .i64 op,.int .i64 rd,.int .i64 rs,.int .i64 rt,.int .i64 im,.int .u64 pc,.int .i64 cause,.int .i64 access,.int .u64 addr,.int .i64 size,.int .u64 old,.int .u64 new,.int .i64 ev] 86∧Q w4 bn∧w3.heap.size≤bn∧w3.heap.size≤vb∧Chg (fun k=>w3.heap.size≤k∧k<bn) w4 wx∧Chg S w3 wx∧MtAt wx mb cb t∧Blk wx w.heap.size #[.int .i64 0,.int .i64 a,.int .i64 b] 57∧Blk wx (w.heap.size+1) #[.int .i64 0,.bool false,.int .i64 0,.int .i64 0,.int .i64 0,.int .i64 0,.int .i64 0,.int .u64 0,.int .i64 0,.int .i64 0,.int .u64 0,.int .i64 0,.int .u64 0,.int .u64 0,.int .i64 0] 86)
 case first=>
  have hr:∀(k:Nat),k<w3.heap.size→¬S k→¬(S k∨w3.heap.size≤k):=fun k h1 h2 e=>e.elim h2 fun e=>by omega
  have m0:∀w',Chg (fun k=>S k∨w3.heap.size≤k) w3 w'→w'.cell? ⟨mb,0,none⟩=some (.pointer (some ⟨cb,0,none⟩)):=fun w' k=>(k.blk HM.out (hr _ HM.out.lt HS.out)).cell' (i:=0) rfl
  have ml:∀w',Chg (fun k=>S k∨w3.heap.size≤k) w3 w'→mb<w'.heap.size:=fun w' k=>(k.blk HM.out (hr _ HM.out.lt HS.out)).lt
  have hna:¬S w.heap.size:=fun e=>absurd (HZ.out.2.2 _ e) (Nat.lt_irrefl _)
  have a0:∀w',Chg (fun k=>S k∨w3.heap.size≤k) w3 w'→∀i,w'.cell? ⟨w.heap.size,i,none⟩=_:=fun w' k i=>(k.blk HA.out (hr _ HA.out.lt hna)).cell i
  have al:∀w',Chg (fun k=>S k∨w3.heap.size≤k) w3 w'→w.heap.size<w'.heap.size:=fun w' k=>(k.blk HA.out (hr _ HA.out.lt hna)).lt
  have cs:=Chg.refl (fun k=>S k∨w3.heap.size≤k) w3
  have cn:=Chg.refl NoB w3
  go_region_held3 (fun w'=>Chg (fun k=>S k∨w3.heap.size≤k) w3 w') ((repeat (first | with_reducible assumption | with_reducible apply Chg.drew | with_reducible apply Chg.drewN | with_reducible apply Chg.alloc | with_reducible refine Chg.setCell ?_ (.inl (.inr (Nat.le_refl _))) _))) (first | (go_at_call 49;(with_reducible refine (HDw.out _ (by (repeat (first | with_reducible assumption | with_reducible apply Chg.drew | with_reducible apply Chg.drewN | with_reducible apply Chg.alloc)))).mono ?_);rintro e w4 ⟨rfl,hQ4,hC4⟩;have h4:Chg (fun k=>S k∨w3.heap.size≤k) w3 w4:=Chg.trans (S:=fun k=>S k∨w3.heap.size≤k) (by with_reducible assumption) (hC4.mono fun _ _ e=>.inl e) (fun _ _ e=>e);try (have hv:=hC4.blk (Blk.new w3 #[.int .i64 0,.bool false,.int .i64 0,.int .i64 0,.int .i64 0,.int .i64 0,.int .i64 0,.int .u64 0,.int .i64 0,.int .i64 0,.int .u64 0,.int .i64 0,.int .u64 0,.int .u64 0,.int .i64 0] 86).drew (fun e=>by have h1:=HZ.out.2.2 _ e;have h2:=HZ.out.1;omega);have hv1:=hv.cell;have hv2:=hv.frozen;have hv3:=hv.lt)))
  ·have hS3:Chg S w3 w4:=((Chg.refl NoB w3).drew.mono fun _ _ e=>e.elim).trans hC4 fun _ _ e=>e
   have hz:=hS3.size
   have hW:=hS3.alloc (.cells #[.int .i64 3,.bool done,.int .i64 op,.int .i64 rd,.int .i64 rs,.int .i64 rt,.int .i64 im,.int .u64 pc,.int .i64 cause,.int .i64 access,.int .u64 addr,.int .i64 size,.int .u64 old,.int .u64 new,.int .i64 ev] 86)
   have HE:=Lib.hid (And.intro (hW.blk HM.out HS.out) (And.intro (hW.blk HA.out hna) (And.intro (hW.blk HB.out (fun e=>absurd (HZ.out.2.2 _ e) (by omega))) (And.intro hW (And.intro hQ4 hz)))))
   clear hS3 hz hW hQ4 hC4 h4 m0 ml a0 al cs cn hr hna;go_wp2_with fail;go_meet
   exact ⟨w4.heap.size,w3.heap.size,w4,rfl,rfl,Blk.new w4 _ _,HE.out.2.2.2.2.1,Nat.le_refl _,HE.out.2.2.2.2.2,(Chg.refl _ w4).alloc _,HE.out.2.2.2.1,HE.out.1,HE.out.2.1,HE.out.2.2.1⟩
  ·have hS3:Chg S w3 w4:=((((Chg.refl NoB w3).alloc (.cells #[.int .i64 0,.bool false,.int .i64 0,.int .i64 0,.int .i64 0,.int .i64 0,.int .i64 0,.int .u64 0,.int .i64 0,.int .i64 0,.int .u64 0,.int .i64 0,.int .u64 0,.int .u64 0,.int .i64 0] 86)).drew).mono fun _ _ e=>e.elim).trans hC4 fun _ _ e=>e
   have hz:=hS3.size
   have hS1:=store_all hv [.int .i64 3,.bool done,.int .i64 op,.int .i64 rd,.int .i64 rs,.int .i64 rt,.int .i64 im,.int .u64 pc,.int .i64 cause,.int .i64 access,.int .u64 addr,.int .i64 size,.int .u64 old,.int .u64 new,.int .i64 ev] rfl
   have hW:Chg S w3 (w4.setCells w3.heap.size 0 [.int .i64 3,.bool done,.int .i64 op,.int .i64 rd,.int .i64 rs,.int .i64 rt,.int .i64 im,.int .u64 pc,.int .i64 cause,.int .i64 access,.int .u64 addr,.int .i64 size,.int .u64 old,.int .u64 new,.int .i64 ev]):=chg_fresh hS3 hS1.2 (Nat.le_refl _)
   have hQ5:Q w4 (w3.heap.size+1):=by
    have e:((w3.alloc (.cells #[.int .i64 0,.bool false,.int .i64 0,.int .i64 0,.int .i64 0,.int .i64 0,.int .i64 0,.int .u64 0,.int .i64 0,.int .i64 0,.int .u64 0,.int .i64 0,.int .u64 0,.int .u64 0,.int .i64 0] 86)).drew).heap.size=w3.heap.size+1:=World.size_alloc ..
    rw [e] at hQ4
    exact hQ4
   have HE:=Lib.hid (And.intro (hW.blk HM.out HS.out) (And.intro (hW.blk HA.out hna) (And.intro (hW.blk HB.out (fun e=>absurd (HZ.out.2.2 _ e) (by omega))) (And.intro hW (And.intro hQ5 (And.intro hS1.1 (hS1.2.mono (S':=fun k=>w3.heap.size≤k∧k<w3.heap.size+1) fun k _ e=>by have:k=w3.heap.size:=e;omega)))))))
   obtain ⟨wS,hwS⟩:∃x,w4.setCells w3.heap.size 0 [.int .i64 3,.bool done,.int .i64 op,.int .i64 rd,.int .i64 rs,.int .i64 rt,.int .i64 im,.int .u64 pc,.int .i64 cause,.int .i64 access,.int .u64 addr,.int .i64 size,.int .u64 old,.int .u64 new,.int .i64 ev]=x:=⟨_,rfl⟩
   rw [hwS] at HE
   replace hwS:((((((((((((((w4.setCell ⟨w3.heap.size,0,none⟩ (.int .i64 3)).setCell ⟨w3.heap.size,1,none⟩ (.bool done)).setCell ⟨w3.heap.size,2,none⟩ (.int .i64 op)).setCell ⟨w3.heap.size,3,none⟩ (.int .i64 rd)).setCell ⟨w3.heap.size,4,none⟩ (.int .i64 rs)).setCell ⟨w3.heap.size,5,none⟩ (.int .i64 rt)).setCell ⟨w3.heap.size,6,none⟩ (.int .i64 im)).setCell ⟨w3.heap.size,7,none⟩ (.int .u64 pc)).setCell ⟨w3.heap.size,8,none⟩ (.int .i64 cause)).setCell ⟨w3.heap.size,9,none⟩ (.int .i64 access)).setCell ⟨w3.heap.size,10,none⟩ (.int .u64 addr)).setCell ⟨w3.heap.size,11,none⟩ (.int .i64 size)).setCell ⟨w3.heap.size,12,none⟩ (.int .u64 old)).setCell ⟨w3.heap.size,13,none⟩ (.int .u64 new)).setCell ⟨w3.heap.size,14,none⟩ (.int .i64 ev)=wS:=hwS
   clear hS3 hz hW hQ4 hQ5 hC4 h4 m0 ml a0 al cs cn hr hna hS1 hv hv1 hv2 hv3;try simp only [hwS]
   go_wp2_with fail;go_meet
   exact ⟨w3.heap.size,w3.heap.size+1,w4,rfl,rfl,HE.out.2.2.2.2.2.1,HE.out.2.2.2.2.1,by omega,Nat.le_refl _,HE.out.2.2.2.2.2.2,HE.out.2.2.2.1,HE.out.1,HE.out.2.1,HE.out.2.2.1⟩
 case rest=>
  obtain ⟨vb,bn,w4,rfl,rfl,hV,hQ4,hbn,hvb,hC4,hS4,hM4,hA4,hB4⟩:=hcut
  have n1:=blk_type hM4 hB4 (by decide)
  have n2:=blk_type hM4 hV (by decide)
  have z1:=HZ.out.1
  have z2:=HZ.out.2.1
  have C0w:=hC4
  have HG:=Lib.hid (And.intro hQ4 (And.intro hbn (And.intro hvb (And.intro hS4 (And.intro z1 z2)))))
  have HT:=Lib.hid ht
  have n3:¬vb=w.heap.size+1:=by omega
  clear hQ4 hbn hvb hS4 z1 z2 ht;have HM4:=Lib.hid hM4
  have HV4:=Lib.hid hV
  have HB4x:=Lib.hid hB4
  have HA4x:=Lib.hid hA4
  have HW4:Hid (Chg (fun k=>k=mb∨(w3.heap.size≤k∧k<bn)) w4 wc):=Lib.hid (hC4.mono fun _ _ e=>.inr e)
  have HWX:Hid (Chg (fun k=>S k∨k=mb) w3 wc):=Lib.hid (HG.out.2.2.2.1.mono fun _ _ e=>.inl e)
  clear hM4 hV hB4 hA4 hC4 C0w HM HA HB HC HDw HA2 HB2 HM2;have n4:¬w.heap.size=mb:=blk_type HA4x.out HM4.out (by decide)
  have g0:=fun w' (c:Chg NoB wc w')=>(c.blk0 HM4.out).cell
  have gl0:=fun w' (c:Chg NoB wc w')=>(c.blk0 HM4.out).lt
  have a0:=fun w' (c:Chg NoB wc w')=>(c.blk0 HA4x.out).cell
  have al0:=fun w' (c:Chg NoB wc w')=>(c.blk0 HA4x.out).lt
  have v0:=fun w' (c:Chg NoB wc w')=>(c.blk0 HV4.out).cell
  have vl0:=fun w' (c:Chg NoB wc w')=>(c.blk0 HV4.out).lt
  have cc:=Chg.refl NoB wc
  have e0:IntKind.i64.wrap (t 3+1)=t 3+1:=IntWalk.i64_in _ (by have:=HT.out 3;omega)
  go_upto_region 9 with fail;have cd:Chg NoB wc wc.drew:=cc.drew
  refine wp_region_mix 13 [(true,0),(true,1),(true,2),(true,3),(true,4),(true,5),(true,6),(true,7),(true,8),(true,9),(true,10),(true,11),(true,12)] (fun w'=>Chg NoB wc w') (by kernel_rfl) (by kernel_rfl) (fun _ _ _ _ _ h=>h) (cc.drew) ?_
  simp only [pickMix_nil,pickMix_cons,Option.getD_some,List.getElem?_toArray,List.getElem?_cons_zero,List.getElem?_cons_succ,List.cons_append,List.nil_append,List.drop_succ_cons,List.drop_zero]
  iterate 13
   refine wpMix_take rfl ?_;apply Exists.intro;refine ⟨fun wS hS=>?_,?_⟩
   ·try dsimp only at hS
    have cS:=hS
    go_simp;try rfl
   simp only [Act.put,List.setIfInBounds_toArray,List.set_cons_zero,List.set_cons_succ]
  refine wpMix_nil ?_
  clear g0 gl0 a0 al0 v0 vl0 cc;replace HM4:=Lib.hid (cd.blk0 HM4.out)
  replace HV4:=Lib.hid (cd.blk0 HV4.out)
  replace HB4x:=Lib.hid (cd.blk0 HB4x.out)
  replace HA4x:=Lib.hid (cd.blk0 HA4x.out)
  replace HW4:=Lib.hid (HW4.out.trans (cd.mono fun _ _ e=>e.elim) fun _ _ e=>e)
  replace HWX:=Lib.hid (HWX.out.trans (cd.mono fun _ _ e=>e.elim) fun _ _ e=>e)
  clear cd;generalize wc.drew=wd0 at *;have C6:Chg (fun k=>k=mb) wd0 (wd0.setCell ⟨mb,4,none⟩ (.int .i64 (t 3+1))):=(Chg.refl (fun k=>k=mb) wd0).setCell (a:=⟨mb,4,none⟩) (.inl rfl) _
  have h6:MtAt (wd0.setCell ⟨mb,4,none⟩ (.int .i64 (t 3+1))) mb cb (updN t 3 (t 3+1)):=HM4.out.set 4 (.int .i64 (t 3+1))
  have k0:=HM4.out.cell
  have kz:=HM4.out.frozen
  have kl:=HM4.out.lt
  obtain ⟨we0,hw0⟩:∃x,wd0.setCell ⟨mb,4,none⟩ (.int .i64 (t 3+1))=x:=⟨_,rfl⟩
  rw [hw0] at C6 h6
  replace HM4:=Lib.hid h6
  replace HV4:=Lib.hid (C6.blk HV4.out (fun e=>n2 e.symm))
  replace HB4x:=Lib.hid (C6.blk HB4x.out (fun e=>n1 e.symm))
  replace HA4x:=Lib.hid (C6.blk HA4x.out n4)
  replace HW4:=Lib.hid (HW4.out.trans (C6.mono fun _ _ e=>.inl e) fun _ _ e=>e)
  replace HWX:=Lib.hid (HWX.out.trans (C6.mono fun _ _ e=>.inr e) fun _ _ e=>e)
  clear C6 h6;have HTn:Hid (∀k,0≤(updN t 3 (t 3+1)) k∧(updN t 3 (t 3+1)) k<1099511627777):=Lib.hid fun k=>by
   unfold updN
   by_cases h:k=3
   ·rw [if_pos h];have:=HT.out 3;exact ⟨by omega,by omega⟩
   ·rw [if_neg h];have:=HT.out k;exact ⟨this.1,by omega⟩
  clear HT;have HT:=HTn
  clear HTn;have g1:=fun w' (c:Chg NoB we0 w')=>(c.blk0 HM4.out).cell
  have gl1:=fun w' (c:Chg NoB we0 w')=>(c.blk0 HM4.out).lt
  have a1:=fun w' (c:Chg NoB we0 w')=>(c.blk0 HA4x.out).cell
  have al1:=fun w' (c:Chg NoB we0 w')=>(c.blk0 HA4x.out).lt
  have v1:=fun w' (c:Chg NoB we0 w')=>(c.blk0 HV4.out).cell
  have vl1:=fun w' (c:Chg NoB we0 w')=>(c.blk0 HV4.out).lt
  have cc:=Chg.refl NoB we0
  have e1:IntKind.i64.wrap ((updN t 3 (t 3+1)) 5+1)=(updN t 3 (t 3+1)) 5+1:=IntWalk.i64_in _ (by have:=HT.out 5;omega)
  go_upto_region 12 with fail;have cd:Chg NoB we0 we0.drew:=cc.drew
  refine wp_region_mix 13 [(true,0),(true,1),(true,2),(true,3),(true,4),(true,5),(true,6),(true,7),(true,8),(true,9),(true,10),(true,11),(true,12)] (fun w'=>Chg NoB we0 w') (by kernel_rfl) (by kernel_rfl) (fun _ _ _ _ _ h=>h) (cc.drew) ?_
  simp only [pickMix_nil,pickMix_cons,Option.getD_some,List.getElem?_toArray,List.getElem?_cons_zero,List.getElem?_cons_succ,List.cons_append,List.nil_append,List.drop_succ_cons,List.drop_zero]
  iterate 13
   refine wpMix_take rfl ?_;apply Exists.intro;refine ⟨fun wS hS=>?_,?_⟩
   ·try dsimp only at hS
    have cS:=hS
    go_simp;try rfl
   simp only [Act.put,List.setIfInBounds_toArray,List.set_cons_zero,List.set_cons_succ]
  refine wpMix_nil ?_
  clear g1 gl1 a1 al1 v1 vl1 cc;replace HM4:=Lib.hid (cd.blk0 HM4.out)
  replace HV4:=Lib.hid (cd.blk0 HV4.out)
  replace HB4x:=Lib.hid (cd.blk0 HB4x.out)
  replace HA4x:=Lib.hid (cd.blk0 HA4x.out)
  replace HW4:=Lib.hid (HW4.out.trans (cd.mono fun _ _ e=>e.elim) fun _ _ e=>e)
  replace HWX:=Lib.hid (HWX.out.trans (cd.mono fun _ _ e=>e.elim) fun _ _ e=>e)
  clear cd;generalize we0.drew=wd1 at *;have C6:Chg (fun k=>k=mb) wd1 (wd1.setCell ⟨mb,6,none⟩ (.int .i64 ((updN t 3 (t 3+1)) 5+1))):=(Chg.refl (fun k=>k=mb) wd1).setCell (a:=⟨mb,6,none⟩) (.inl rfl) _
  have h6:MtAt (wd1.setCell ⟨mb,6,none⟩ (.int .i64 ((updN t 3 (t 3+1)) 5+1))) mb cb (updN (updN t 3 (t 3+1)) 5 ((updN t 3 (t 3+1)) 5+1)):=HM4.out.set 6 (.int .i64 ((updN t 3 (t 3+1)) 5+1))
  have k0:=HM4.out.cell
  have kz:=HM4.out.frozen
  have kl:=HM4.out.lt
  obtain ⟨we1,hw1⟩:∃x,wd1.setCell ⟨mb,6,none⟩ (.int .i64 ((updN t 3 (t 3+1)) 5+1))=x:=⟨_,rfl⟩
  rw [hw1] at C6 h6
  replace HM4:=Lib.hid h6
  replace HV4:=Lib.hid (C6.blk HV4.out (fun e=>n2 e.symm))
  replace HB4x:=Lib.hid (C6.blk HB4x.out (fun e=>n1 e.symm))
  replace HA4x:=Lib.hid (C6.blk HA4x.out n4)
  replace HW4:=Lib.hid (HW4.out.trans (C6.mono fun _ _ e=>.inl e) fun _ _ e=>e)
  replace HWX:=Lib.hid (HWX.out.trans (C6.mono fun _ _ e=>.inr e) fun _ _ e=>e)
  clear C6 h6;have HS2:=store_all HB4x.out [.int .i64 3,.bool done,.int .i64 op,.int .i64 rd,.int .i64 rs,.int .i64 rt,.int .i64 im,.int .u64 pc,.int .i64 cause,.int .i64 access,.int .u64 addr,.int .i64 size,.int .u64 old,.int .u64 new,.int .i64 ev] rfl
  have hM8:=HS2.2.blk HM4.out n1
  have hz4:=HW4.out.size
  have hq:=HQ.out w4 _ bn HG.out.1 ((HW4.out.mono (S':=fun k=>k=mb∨w.heap.size≤k∧k<bn) fun k _ e=>e.imp id fun e=>⟨by have:=HG.out.2.2.2.2.1;omega,e.2⟩).trans (HS2.2.mono (S':=fun k=>k=mb∨w.heap.size≤k∧k<bn) fun k _ e=>.inr (by have:k=w.heap.size+1:=e;have:=HG.out.2.1;have:=HG.out.2.2.2.2.2;omega)) fun _ _ e=>e)
  have hW:=chg_fresh ((HC2.out.mono (S':=fun k=>S k∨k=mb) fun _ _ e=>e.elim).trans HWX.out fun _ _ e=>e) HS2.2 (by omega)
  have HF:=Lib.hid (And.intro hM8 (And.intro hq hW))
  obtain ⟨w8,hw8⟩:∃x,we1.setCells (w.heap.size+1) 0 [.int .i64 3,.bool done,.int .i64 op,.int .i64 rd,.int .i64 rs,.int .i64 rt,.int .i64 im,.int .u64 pc,.int .i64 cause,.int .i64 access,.int .u64 addr,.int .i64 size,.int .u64 old,.int .u64 new,.int .i64 ev]=x:=⟨_,rfl⟩
  rw [hw8] at HF HS2
  replace hw8:((((((((((((((we1.setCell ⟨w.heap.size+1,0,none⟩ (.int .i64 3)).setCell ⟨w.heap.size+1,1,none⟩ (.bool done)).setCell ⟨w.heap.size+1,2,none⟩ (.int .i64 op)).setCell ⟨w.heap.size+1,3,none⟩ (.int .i64 rd)).setCell ⟨w.heap.size+1,4,none⟩ (.int .i64 rs)).setCell ⟨w.heap.size+1,5,none⟩ (.int .i64 rt)).setCell ⟨w.heap.size+1,6,none⟩ (.int .i64 im)).setCell ⟨w.heap.size+1,7,none⟩ (.int .u64 pc)).setCell ⟨w.heap.size+1,8,none⟩ (.int .i64 cause)).setCell ⟨w.heap.size+1,9,none⟩ (.int .i64 access)).setCell ⟨w.heap.size+1,10,none⟩ (.int .u64 addr)).setCell ⟨w.heap.size+1,11,none⟩ (.int .i64 size)).setCell ⟨w.heap.size+1,12,none⟩ (.int .u64 old)).setCell ⟨w.heap.size+1,13,none⟩ (.int .u64 new)).setCell ⟨w.heap.size+1,14,none⟩ (.int .i64 ev)=w8:=hw8
  have y0:=HV4.out.cell
  have yl:=HV4.out.lt
  have y6:=HB4x.out.cell
  have y7:=HB4x.out.frozen
  have y8:=HB4x.out.lt
  have q:=HS2.1.cell
  have ql:=HS2.1.lt
  clear HS2 hM8 hq hW hz4 n1 n2 n3 n4 HM4 HV4 HB4x HA4x HW4 HWX HG HT HZ HC2;go_wp2_with fail;exact bodyPost_ret (v:=.tuple #[.agg #[.int .i64 3,.bool done,.int .i64 op,.int .i64 rd,.int .i64 rs,.int .i64 rt,.int .i64 im,.int .u64 pc,.int .i64 cause,.int .i64 access,.int .u64 addr,.int .i64 size,.int .u64 old,.int .u64 new,.int .i64 ev],.bool true]) (by simp [results,Tryz.results31,go_sem,q]) rfl ⟨rfl,HF.out.1,HF.out.2.1,HF.out.2.2⟩
theorem mDo_tick {w:World} {mb cb:Nat} {t:Nat→Int} (hM:MtAt w mb cb t) (ht:∀k,0≤t k∧t k<1099511627776) (S:Nat→Prop) (hS:¬S mb) (hSb:∀k,S k→k<w.heap.size) (Q:World→Nat→Prop) (Q':World→Prop) (a b what:Int) (done:Bool) (op rd rs rt im:Int) (pc:Int) (cause access:Int) (addr:Int) (size:Int) (old new ev:Int)
  (hP:∀w',Chg NoB w w'→Calls Tryz.prog 48 #[.pointer (some ⟨mb,0,none⟩),.agg #[.int .i64 6,.int .i64 a,.int .i64 b]] w' (RetW (.tuple #[.agg #[.int .i64 0,.int .i64 0,.slice none 0 0,.bool false],.bool false]) fun w''=>Chg NoB w' w''))
  (hD:∀w',Chg NoB w w'→Calls Tryz.prog 49 #[.pointer (some ⟨cb,0,none⟩),.agg #[.int .i64 6,.int .i64 a,.int .i64 b]] w' (RetW (.tuple #[.agg #[.int .i64 what,.bool done,.int .i64 op,.int .i64 rd,.int .i64 rs,.int .i64 rt,.int .i64 im,.int .u64 pc,.int .i64 cause,.int .i64 access,.int .u64 addr,.int .i64 size,.int .u64 old,.int .u64 new,.int .i64 ev],.bool true]) fun w''=>Q w'' w'.heap.size∧Chg S w' w''))
  (hQ:∀w1 w2 b,Q w1 b→Chg (fun k=>k=mb∨(w.heap.size≤k∧k<b)) w1 w2→Q' w2) :
  Calls Tryz.prog 31 #[.pointer (some ⟨mb,0,none⟩),.agg #[.int .i64 6,.int .i64 a,.int .i64 b]] w (RetW (.tuple #[.agg #[.int .i64 what,.bool done,.int .i64 op,.int .i64 rd,.int .i64 rs,.int .i64 rt,.int .i64 im,.int .u64 pc,.int .i64 cause,.int .i64 access,.int .u64 addr,.int .i64 size,.int .u64 old,.int .u64 new,.int .i64 ev],.bool true]) fun w'=>MtAt w' mb cb (updN t 11 (t 11+1))∧Q' w'∧Chg (fun k=>S k∨k=mb) w w'):=by
 have HP:=Lib.hid hP
 have HD:=Lib.hid hD
 have HQ:=Lib.hid hQ
 have HS:=Lib.hid hS
 have c0:=((Chg.refl NoB w).alloc (.cells #[.int .i64 6,.int .i64 a,.int .i64 b] 57)).alloc (.cells #[.int .i64 0,.bool false,.int .i64 0,.int .i64 0,.int .i64 0,.int .i64 0,.int .i64 0,.int .u64 0,.int .i64 0,.int .i64 0,.int .u64 0,.int .i64 0,.int .u64 0,.int .u64 0,.int .i64 0] 86)
 have HC:=Lib.hid c0
 have hB0:=Blk.new (w.alloc (.cells #[.int .i64 6,.int .i64 a,.int .i64 b] 57)) #[.int .i64 0,.bool false,.int .i64 0,.int .i64 0,.int .i64 0,.int .i64 0,.int .i64 0,.int .u64 0,.int .i64 0,.int .i64 0,.int .u64 0,.int .i64 0,.int .u64 0,.int .u64 0,.int .i64 0] 86
 have hA0:=(Blk.new w #[.int .i64 6,.int .i64 a,.int .i64 b] 57).alloc (.cells #[.int .i64 0,.bool false,.int .i64 0,.int .i64 0,.int .i64 0,.int .i64 0,.int .i64 0,.int .u64 0,.int .i64 0,.int .i64 0,.int .u64 0,.int .i64 0,.int .u64 0,.int .u64 0,.int .i64 0] 86)
 rw [World.size_alloc] at hB0
 have HM:=Lib.hid (c0.blk0 hM)
 generalize hw1:(w.alloc (.cells #[.int .i64 6,.int .i64 a,.int .i64 b] 57)).alloc (.cells #[.int .i64 0,.bool false,.int .i64 0,.int .i64 0,.int .i64 0,.int .i64 0,.int .i64 0,.int .u64 0,.int .i64 0,.int .i64 0,.int .u64 0,.int .i64 0,.int .u64 0,.int .u64 0,.int .i64 0] 86)=w1 at *;have HB:=Lib.hid hB0
 have HA:=Lib.hid hA0
 have k1:=hA0.cell
 have k1l:=hA0.lt
 have HP1:=Lib.hid (HP.out w1 HC.out)
 clear c0 hB0 hA0 hP hD hQ hS hM;go_enter Tryz.func31,Tryz.ntmps31;go_wp2_with fail;with_reducible refine HP1.out.mono ?_
 rintro e w2 ⟨rfl,hC2⟩;have c2:=(hC2.alloc (.cells #[.int .i64 0,.int .i64 0,.slice none 0 0,.bool false] 126))
 have HC2:=Lib.hid (HC.out.step c2)
 have HA2:=Lib.hid (c2.blk0 HA.out)
 have HB2:=Lib.hid (c2.blk0 HB.out)
 have HM2:=Lib.hid (c2.blk0 HM.out)
 clear c2 hC2 k1 k1l HC HA HB HM HP1 HP hw1;go_upto_region 4 with fail;generalize hw3:w2.alloc (.cells #[.int .i64 0,.int .i64 0,.slice none 0 0,.bool false] 126)=w3 at *;clear hw3;have HDw:=Lib.hid fun w' (k:Chg NoB w3 w')=>HD.out w' (HC2.out.step k)
 have HZ:=Lib.hid (And.intro HC2.out.size (And.intro HB2.out.lt hSb))
 have HC:Hid (Chg NoB w3 w3):=Lib.hid (Chg.refl _ _)
 have HM:=Lib.hid HM2.out
 have HA:=Lib.hid HA2.out
 have HB:=Lib.hid HB2.out
 clear HD hSb;go_cut [8,9] (fun s8 s9 wx=>∃(vb bn:Nat) (w4:World),s8 = .pointer (some ⟨vb,0,none⟩)∧s9 = .bool true∧Blk wx vb #[.int .i64 what,.bool done,.int .i64 op,.int .i64 rd,.int .i64 rs,.int .i64 rt,.int .i64 im,.int .u64 pc,.int .i64 cause,.int .i64 access,.int .u64 addr,.int .i64 size,.int .u64 old,.int .u64 new,.int .i64 ev] 86∧Q w4 bn∧w3.heap.size≤bn∧w3.heap.size≤vb∧Chg (fun k=>w3.heap.size≤k∧k<bn) w4 wx∧Chg S w3 wx∧MtAt wx mb cb t∧Blk wx w.heap.size #[.int .i64 6,.int .i64 a,.int .i64 b] 57∧Blk wx (w.heap.size+1) #[.int .i64 0,.bool false,.int .i64 0,.int .i64 0,.int .i64 0,.int .i64 0,.int .i64 0,.int .u64 0,.int .i64 0,.int .i64 0,.int .u64 0,.int .i64 0,.int .u64 0,.int .u64 0,.int .i64 0] 86)
 case first=>
  have hr:∀(k:Nat),k<w3.heap.size→¬S k→¬(S k∨w3.heap.size≤k):=fun k h1 h2 e=>e.elim h2 fun e=>by omega
  have m0:∀w',Chg (fun k=>S k∨w3.heap.size≤k) w3 w'→w'.cell? ⟨mb,0,none⟩=some (.pointer (some ⟨cb,0,none⟩)):=fun w' k=>(k.blk HM.out (hr _ HM.out.lt HS.out)).cell' (i:=0) rfl
  have ml:∀w',Chg (fun k=>S k∨w3.heap.size≤k) w3 w'→mb<w'.heap.size:=fun w' k=>(k.blk HM.out (hr _ HM.out.lt HS.out)).lt
  have hna:¬S w.heap.size:=fun e=>absurd (HZ.out.2.2 _ e) (Nat.lt_irrefl _)
  have a0:∀w',Chg (fun k=>S k∨w3.heap.size≤k) w3 w'→∀i,w'.cell? ⟨w.heap.size,i,none⟩=_:=fun w' k i=>(k.blk HA.out (hr _ HA.out.lt hna)).cell i
  have al:∀w',Chg (fun k=>S k∨w3.heap.size≤k) w3 w'→w.heap.size<w'.heap.size:=fun w' k=>(k.blk HA.out (hr _ HA.out.lt hna)).lt
  have cs:=Chg.refl (fun k=>S k∨w3.heap.size≤k) w3
  have cn:=Chg.refl NoB w3
  go_region_held3 (fun w'=>Chg (fun k=>S k∨w3.heap.size≤k) w3 w') ((repeat (first | with_reducible assumption | with_reducible apply Chg.drew | with_reducible apply Chg.drewN | with_reducible apply Chg.alloc | with_reducible refine Chg.setCell ?_ (.inl (.inr (Nat.le_refl _))) _))) (first | (go_at_call 49;(with_reducible refine (HDw.out _ (by (repeat (first | with_reducible assumption | with_reducible apply Chg.drew | with_reducible apply Chg.drewN | with_reducible apply Chg.alloc)))).mono ?_);rintro e w4 ⟨rfl,hQ4,hC4⟩;have h4:Chg (fun k=>S k∨w3.heap.size≤k) w3 w4:=Chg.trans (S:=fun k=>S k∨w3.heap.size≤k) (by with_reducible assumption) (hC4.mono fun _ _ e=>.inl e) (fun _ _ e=>e);try (have hv:=hC4.blk (Blk.new w3 #[.int .i64 0,.bool false,.int .i64 0,.int .i64 0,.int .i64 0,.int .i64 0,.int .i64 0,.int .u64 0,.int .i64 0,.int .i64 0,.int .u64 0,.int .i64 0,.int .u64 0,.int .u64 0,.int .i64 0] 86).drew (fun e=>by have h1:=HZ.out.2.2 _ e;have h2:=HZ.out.1;omega);have hv1:=hv.cell;have hv2:=hv.frozen;have hv3:=hv.lt)))
  ·have hS3:Chg S w3 w4:=((Chg.refl NoB w3).drew.mono fun _ _ e=>e.elim).trans hC4 fun _ _ e=>e
   have hz:=hS3.size
   have hW:=hS3.alloc (.cells #[.int .i64 what,.bool done,.int .i64 op,.int .i64 rd,.int .i64 rs,.int .i64 rt,.int .i64 im,.int .u64 pc,.int .i64 cause,.int .i64 access,.int .u64 addr,.int .i64 size,.int .u64 old,.int .u64 new,.int .i64 ev] 86)
   have HE:=Lib.hid (And.intro (hW.blk HM.out HS.out) (And.intro (hW.blk HA.out hna) (And.intro (hW.blk HB.out (fun e=>absurd (HZ.out.2.2 _ e) (by omega))) (And.intro hW (And.intro hQ4 hz)))))
   clear hS3 hz hW hQ4 hC4 h4 m0 ml a0 al cs cn hr hna;go_wp2_with fail;go_meet
   exact ⟨w4.heap.size,w3.heap.size,w4,rfl,rfl,Blk.new w4 _ _,HE.out.2.2.2.2.1,Nat.le_refl _,HE.out.2.2.2.2.2,(Chg.refl _ w4).alloc _,HE.out.2.2.2.1,HE.out.1,HE.out.2.1,HE.out.2.2.1⟩
  ·have hS3:Chg S w3 w4:=((((Chg.refl NoB w3).alloc (.cells #[.int .i64 0,.bool false,.int .i64 0,.int .i64 0,.int .i64 0,.int .i64 0,.int .i64 0,.int .u64 0,.int .i64 0,.int .i64 0,.int .u64 0,.int .i64 0,.int .u64 0,.int .u64 0,.int .i64 0] 86)).drew).mono fun _ _ e=>e.elim).trans hC4 fun _ _ e=>e
   have hz:=hS3.size
   have hS1:=store_all hv [.int .i64 what,.bool done,.int .i64 op,.int .i64 rd,.int .i64 rs,.int .i64 rt,.int .i64 im,.int .u64 pc,.int .i64 cause,.int .i64 access,.int .u64 addr,.int .i64 size,.int .u64 old,.int .u64 new,.int .i64 ev] rfl
   have hW:Chg S w3 (w4.setCells w3.heap.size 0 [.int .i64 what,.bool done,.int .i64 op,.int .i64 rd,.int .i64 rs,.int .i64 rt,.int .i64 im,.int .u64 pc,.int .i64 cause,.int .i64 access,.int .u64 addr,.int .i64 size,.int .u64 old,.int .u64 new,.int .i64 ev]):=chg_fresh hS3 hS1.2 (Nat.le_refl _)
   have hQ5:Q w4 (w3.heap.size+1):=by
    have e:((w3.alloc (.cells #[.int .i64 0,.bool false,.int .i64 0,.int .i64 0,.int .i64 0,.int .i64 0,.int .i64 0,.int .u64 0,.int .i64 0,.int .i64 0,.int .u64 0,.int .i64 0,.int .u64 0,.int .u64 0,.int .i64 0] 86)).drew).heap.size=w3.heap.size+1:=World.size_alloc ..
    rw [e] at hQ4
    exact hQ4
   have HE:=Lib.hid (And.intro (hW.blk HM.out HS.out) (And.intro (hW.blk HA.out hna) (And.intro (hW.blk HB.out (fun e=>absurd (HZ.out.2.2 _ e) (by omega))) (And.intro hW (And.intro hQ5 (And.intro hS1.1 (hS1.2.mono (S':=fun k=>w3.heap.size≤k∧k<w3.heap.size+1) fun k _ e=>by have:k=w3.heap.size:=e;omega)))))))
   obtain ⟨wS,hwS⟩:∃x,w4.setCells w3.heap.size 0 [.int .i64 what,.bool done,.int .i64 op,.int .i64 rd,.int .i64 rs,.int .i64 rt,.int .i64 im,.int .u64 pc,.int .i64 cause,.int .i64 access,.int .u64 addr,.int .i64 size,.int .u64 old,.int .u64 new,.int .i64 ev]=x:=⟨_,rfl⟩
   rw [hwS] at HE
   replace hwS:((((((((((((((w4.setCell ⟨w3.heap.size,0,none⟩ (.int .i64 what)).setCell ⟨w3.heap.size,1,none⟩ (.bool done)).setCell ⟨w3.heap.size,2,none⟩ (.int .i64 op)).setCell ⟨w3.heap.size,3,none⟩ (.int .i64 rd)).setCell ⟨w3.heap.size,4,none⟩ (.int .i64 rs)).setCell ⟨w3.heap.size,5,none⟩ (.int .i64 rt)).setCell ⟨w3.heap.size,6,none⟩ (.int .i64 im)).setCell ⟨w3.heap.size,7,none⟩ (.int .u64 pc)).setCell ⟨w3.heap.size,8,none⟩ (.int .i64 cause)).setCell ⟨w3.heap.size,9,none⟩ (.int .i64 access)).setCell ⟨w3.heap.size,10,none⟩ (.int .u64 addr)).setCell ⟨w3.heap.size,11,none⟩ (.int .i64 size)).setCell ⟨w3.heap.size,12,none⟩ (.int .u64 old)).setCell ⟨w3.heap.size,13,none⟩ (.int .u64 new)).setCell ⟨w3.heap.size,14,none⟩ (.int .i64 ev)=wS:=hwS
   clear hS3 hz hW hQ4 hQ5 hC4 h4 m0 ml a0 al cs cn hr hna hS1 hv hv1 hv2 hv3;try simp only [hwS]
   go_wp2_with fail;go_meet
   exact ⟨w3.heap.size,w3.heap.size+1,w4,rfl,rfl,HE.out.2.2.2.2.2.1,HE.out.2.2.2.2.1,by omega,Nat.le_refl _,HE.out.2.2.2.2.2.2,HE.out.2.2.2.1,HE.out.1,HE.out.2.1,HE.out.2.2.1⟩
 case rest=>
  obtain ⟨vb,bn,w4,rfl,rfl,hV,hQ4,hbn,hvb,hC4,hS4,hM4,hA4,hB4⟩:=hcut
  have n1:=blk_type hM4 hB4 (by decide)
  have n2:=blk_type hM4 hV (by decide)
  have z1:=HZ.out.1
  have z2:=HZ.out.2.1
  have C0w:=hC4
  have HG:=Lib.hid (And.intro hQ4 (And.intro hbn (And.intro hvb (And.intro hS4 (And.intro z1 z2)))))
  have HT:=Lib.hid ht
  have n3:¬vb=w.heap.size+1:=by omega
  clear hQ4 hbn hvb hS4 z1 z2 ht;have HM4:=Lib.hid hM4
  have HV4:=Lib.hid hV
  have HB4x:=Lib.hid hB4
  have HA4x:=Lib.hid hA4
  have HW4:Hid (Chg (fun k=>k=mb∨(w3.heap.size≤k∧k<bn)) w4 wc):=Lib.hid (hC4.mono fun _ _ e=>.inr e)
  have HWX:Hid (Chg (fun k=>S k∨k=mb) w3 wc):=Lib.hid (HG.out.2.2.2.1.mono fun _ _ e=>.inl e)
  clear hM4 hV hB4 hA4 hC4 C0w HM HA HB HC HDw HA2 HB2 HM2;have n4:¬w.heap.size=mb:=blk_type HA4x.out HM4.out (by decide)
  have g0:=fun w' (c:Chg NoB wc w')=>(c.blk0 HM4.out).cell
  have gl0:=fun w' (c:Chg NoB wc w')=>(c.blk0 HM4.out).lt
  have a0:=fun w' (c:Chg NoB wc w')=>(c.blk0 HA4x.out).cell
  have al0:=fun w' (c:Chg NoB wc w')=>(c.blk0 HA4x.out).lt
  have v0:=fun w' (c:Chg NoB wc w')=>(c.blk0 HV4.out).cell
  have vl0:=fun w' (c:Chg NoB wc w')=>(c.blk0 HV4.out).lt
  have cc:=Chg.refl NoB wc
  have e0:IntKind.i64.wrap (t 11+1)=t 11+1:=IntWalk.i64_in _ (by have:=HT.out 11;omega)
  go_upto_region 12 with fail;have cd:Chg NoB wc wc.drew:=cc.drew
  refine wp_region_mix 13 [(true,0),(true,1),(true,2),(true,3),(true,4),(true,5),(true,6),(true,7),(true,8),(true,9),(true,10),(true,11),(true,12)] (fun w'=>Chg NoB wc w') (by kernel_rfl) (by kernel_rfl) (fun _ _ _ _ _ h=>h) (cc.drew) ?_
  simp only [pickMix_nil,pickMix_cons,Option.getD_some,List.getElem?_toArray,List.getElem?_cons_zero,List.getElem?_cons_succ,List.cons_append,List.nil_append,List.drop_succ_cons,List.drop_zero]
  iterate 13
   refine wpMix_take rfl ?_;apply Exists.intro;refine ⟨fun wS hS=>?_,?_⟩
   ·try dsimp only at hS
    have cS:=hS
    go_simp;try rfl
   simp only [Act.put,List.setIfInBounds_toArray,List.set_cons_zero,List.set_cons_succ]
  refine wpMix_nil ?_
  clear g0 gl0 a0 al0 v0 vl0 cc;replace HM4:=Lib.hid (cd.blk0 HM4.out)
  replace HV4:=Lib.hid (cd.blk0 HV4.out)
  replace HB4x:=Lib.hid (cd.blk0 HB4x.out)
  replace HA4x:=Lib.hid (cd.blk0 HA4x.out)
  replace HW4:=Lib.hid (HW4.out.trans (cd.mono fun _ _ e=>e.elim) fun _ _ e=>e)
  replace HWX:=Lib.hid (HWX.out.trans (cd.mono fun _ _ e=>e.elim) fun _ _ e=>e)
  clear cd;generalize wc.drew=wd0 at *;have C6:Chg (fun k=>k=mb) wd0 (wd0.setCell ⟨mb,12,none⟩ (.int .i64 (t 11+1))):=(Chg.refl (fun k=>k=mb) wd0).setCell (a:=⟨mb,12,none⟩) (.inl rfl) _
  have h6:MtAt (wd0.setCell ⟨mb,12,none⟩ (.int .i64 (t 11+1))) mb cb (updN t 11 (t 11+1)):=HM4.out.set 12 (.int .i64 (t 11+1))
  have k0:=HM4.out.cell
  have kz:=HM4.out.frozen
  have kl:=HM4.out.lt
  obtain ⟨we0,hw0⟩:∃x,wd0.setCell ⟨mb,12,none⟩ (.int .i64 (t 11+1))=x:=⟨_,rfl⟩
  rw [hw0] at C6 h6
  replace HM4:=Lib.hid h6
  replace HV4:=Lib.hid (C6.blk HV4.out (fun e=>n2 e.symm))
  replace HB4x:=Lib.hid (C6.blk HB4x.out (fun e=>n1 e.symm))
  replace HA4x:=Lib.hid (C6.blk HA4x.out n4)
  replace HW4:=Lib.hid (HW4.out.trans (C6.mono fun _ _ e=>.inl e) fun _ _ e=>e)
  replace HWX:=Lib.hid (HWX.out.trans (C6.mono fun _ _ e=>.inr e) fun _ _ e=>e)
  clear C6 h6;have HS2:=store_all HB4x.out [.int .i64 what,.bool done,.int .i64 op,.int .i64 rd,.int .i64 rs,.int .i64 rt,.int .i64 im,.int .u64 pc,.int .i64 cause,.int .i64 access,.int .u64 addr,.int .i64 size,.int .u64 old,.int .u64 new,.int .i64 ev] rfl
  have hM8:=HS2.2.blk HM4.out n1
  have hz4:=HW4.out.size
  have hq:=HQ.out w4 _ bn HG.out.1 ((HW4.out.mono (S':=fun k=>k=mb∨w.heap.size≤k∧k<bn) fun k _ e=>e.imp id fun e=>⟨by have:=HG.out.2.2.2.2.1;omega,e.2⟩).trans (HS2.2.mono (S':=fun k=>k=mb∨w.heap.size≤k∧k<bn) fun k _ e=>.inr (by have:k=w.heap.size+1:=e;have:=HG.out.2.1;have:=HG.out.2.2.2.2.2;omega)) fun _ _ e=>e)
  have hW:=chg_fresh ((HC2.out.mono (S':=fun k=>S k∨k=mb) fun _ _ e=>e.elim).trans HWX.out fun _ _ e=>e) HS2.2 (by omega)
  have HF:=Lib.hid (And.intro hM8 (And.intro hq hW))
  obtain ⟨w8,hw8⟩:∃x,we0.setCells (w.heap.size+1) 0 [.int .i64 what,.bool done,.int .i64 op,.int .i64 rd,.int .i64 rs,.int .i64 rt,.int .i64 im,.int .u64 pc,.int .i64 cause,.int .i64 access,.int .u64 addr,.int .i64 size,.int .u64 old,.int .u64 new,.int .i64 ev]=x:=⟨_,rfl⟩
  rw [hw8] at HF HS2
  replace hw8:((((((((((((((we0.setCell ⟨w.heap.size+1,0,none⟩ (.int .i64 what)).setCell ⟨w.heap.size+1,1,none⟩ (.bool done)).setCell ⟨w.heap.size+1,2,none⟩ (.int .i64 op)).setCell ⟨w.heap.size+1,3,none⟩ (.int .i64 rd)).setCell ⟨w.heap.size+1,4,none⟩ (.int .i64 rs)).setCell ⟨w.heap.size+1,5,none⟩ (.int .i64 rt)).setCell ⟨w.heap.size+1,6,none⟩ (.int .i64 im)).setCell ⟨w.heap.size+1,7,none⟩ (.int .u64 pc)).setCell ⟨w.heap.size+1,8,none⟩ (.int .i64 cause)).setCell ⟨w.heap.size+1,9,none⟩ (.int .i64 access)).setCell ⟨w.heap.size+1,10,none⟩ (.int .u64 addr)).setCell ⟨w.heap.size+1,11,none⟩ (.int .i64 size)).setCell ⟨w.heap.size+1,12,none⟩ (.int .u64 old)).setCell ⟨w.heap.size+1,13,none⟩ (.int .u64 new)).setCell ⟨w.heap.size+1,14,none⟩ (.int .i64 ev)=w8:=hw8
  have y0:=HV4.out.cell
  have yl:=HV4.out.lt
  have y6:=HB4x.out.cell
  have y7:=HB4x.out.frozen
  have y8:=HB4x.out.lt
  have q:=HS2.1.cell
  have ql:=HS2.1.lt
  clear HS2 hM8 hq hW hz4 n1 n2 n3 n4 HM4 HV4 HB4x HA4x HW4 HWX HG HT HZ HC2;go_wp2_with fail;exact bodyPost_ret (v:=.tuple #[.agg #[.int .i64 what,.bool done,.int .i64 op,.int .i64 rd,.int .i64 rs,.int .i64 rt,.int .i64 im,.int .u64 pc,.int .i64 cause,.int .i64 access,.int .u64 addr,.int .i64 size,.int .u64 old,.int .u64 new,.int .i64 ev],.bool true]) (by simp [results,Tryz.results31,go_sem,q]) rfl ⟨rfl,HF.out.1,HF.out.2.1,HF.out.2.2⟩
end Go.Proofs.YtjhnnjgnkkjmkaaGreatDoor
