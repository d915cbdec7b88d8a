/- Meters: new ones, tallies, parcels that are none. No condition. Meters: acts. No condition. -/
import Derived.Test.YtjhnnjgnkkjmkaaGreatDoorIj
import Derived.Test.YtjhnnjgnkkjmkaaGreatDoorGd
set_option maxHeartbeats 4000000
set_option maxRecDepth 100000
set_option linter.unusedVariables false
set_option linter.unusedSimpArgs false
namespace Go.Proofs.YtjhnnjgnkkjmkaaGreatDoor
open Go.RowKit Go.RR
def MtAt (w:World) (mb cb:Nat) (t:Nat→Int):Prop:=Blk w mb #[.pointer (some ⟨cb,0,none⟩),.int .i64 (t 0),.int .i64 (t 1),.int .i64 (t 2),.int .i64 (t 3),.int .i64 (t 4),.int .i64 (t 5),.int .i64 (t 6),.int .i64 (t 7),.int .i64 (t 8),.int .i64 (t 9),.int .i64 (t 10),.int .i64 (t 11),.int .i64 (t 12),.int .i64 (t 13),.int .i64 (t 14),.int .i64 (t 15),.int .i64 (t 16),.int .i64 (t 17),.int .i64 (t 18),.int .i64 (t 19),.int .i64 (t 20),.int .i64 (t 21),.int .i64 (t 22),.int .i64 (t 23)] 83
def talV (t:Nat→Int):Value:=.agg #[.int .i64 (t 0),.int .i64 (t 1),.int .i64 (t 2),.int .i64 (t 3),.int .i64 (t 4),.int .i64 (t 5),.int .i64 (t 6),.int .i64 (t 7),.int .i64 (t 8),.int .i64 (t 9),.int .i64 (t 10),.int .i64 (t 11),.int .i64 (t 12),.int .i64 (t 13),.int .i64 (t 14),.int .i64 (t 15),.int .i64 (t 16),.int .i64 (t 17),.int .i64 (t 18),.int .i64 (t 19),.int .i64 (t 20),.int .i64 (t 21),.int .i64 (t 22),.int .i64 (t 23)]
theorem mNew_any (w:World) (cb:Nat):Calls Tryz.prog 18 #[.pointer (some ⟨cb,0,none⟩)] w (RetW (.pointer (some ⟨w.heap.size,0,none⟩)) fun w'=>MtAt w' w.heap.size cb (fun _=>0)∧Chg NoB w w'):=by
 have hB:=Lib.hid (Blk.new w #[.pointer (some ⟨cb,0,none⟩),.int .i64 ((fun _:Nat=>(0:Int)) 0),.int .i64 ((fun _:Nat=>(0:Int)) 1),.int .i64 ((fun _:Nat=>(0:Int)) 2),.int .i64 ((fun _:Nat=>(0:Int)) 3),.int .i64 ((fun _:Nat=>(0:Int)) 4),.int .i64 ((fun _:Nat=>(0:Int)) 5),.int .i64 ((fun _:Nat=>(0:Int)) 6),.int .i64 ((fun _:Nat=>(0:Int)) 7),.int .i64 ((fun _:Nat=>(0:Int)) 8),.int .i64 ((fun _:Nat=>(0:Int)) 9),.int .i64 ((fun _:Nat=>(0:Int)) 10),.int .i64 ((fun _:Nat=>(0:Int)) 11),.int .i64 ((fun _:Nat=>(0:Int)) 12),.int .i64 ((fun _:Nat=>(0:Int)) 13),.int .i64 ((fun _:Nat=>(0:Int)) 14),.int .i64 ((fun _:Nat=>(0:Int)) 15),.int .i64 ((fun _:Nat=>(0:Int)) 16),.int .i64 ((fun _:Nat=>(0:Int)) 17),.int .i64 ((fun _:Nat=>(0:Int)) 18),.int .i64 ((fun _:Nat=>(0:Int)) 19),.int .i64 ((fun _:Nat=>(0:Int)) 20),.int .i64 ((fun _:Nat=>(0:Int)) 21),.int .i64 ((fun _:Nat=>(0:Int)) 22),.int .i64 ((fun _:Nat=>(0:Int)) 23)] 83)
 have hC:=Lib.hid ((Chg.refl NoB w).alloc (.cells #[.pointer (some ⟨cb,0,none⟩),.int .i64 ((fun _:Nat=>(0:Int)) 0),.int .i64 ((fun _:Nat=>(0:Int)) 1),.int .i64 ((fun _:Nat=>(0:Int)) 2),.int .i64 ((fun _:Nat=>(0:Int)) 3),.int .i64 ((fun _:Nat=>(0:Int)) 4),.int .i64 ((fun _:Nat=>(0:Int)) 5),.int .i64 ((fun _:Nat=>(0:Int)) 6),.int .i64 ((fun _:Nat=>(0:Int)) 7),.int .i64 ((fun _:Nat=>(0:Int)) 8),.int .i64 ((fun _:Nat=>(0:Int)) 9),.int .i64 ((fun _:Nat=>(0:Int)) 10),.int .i64 ((fun _:Nat=>(0:Int)) 11),.int .i64 ((fun _:Nat=>(0:Int)) 12),.int .i64 ((fun _:Nat=>(0:Int)) 13),.int .i64 ((fun _:Nat=>(0:Int)) 14),.int .i64 ((fun _:Nat=>(0:Int)) 15),.int .i64 ((fun _:Nat=>(0:Int)) 16),.int .i64 ((fun _:Nat=>(0:Int)) 17),.int .i64 ((fun _:Nat=>(0:Int)) 18),.int .i64 ((fun _:Nat=>(0:Int)) 19),.int .i64 ((fun _:Nat=>(0:Int)) 20),.int .i64 ((fun _:Nat=>(0:Int)) 21),.int .i64 ((fun _:Nat=>(0:Int)) 22),.int .i64 ((fun _:Nat=>(0:Int)) 23)] 83))
 go_enter Tryz.func18,Tryz.ntmps18;go_wp2_with fail;go_ret;exact ⟨rfl,hB.out,hC.out⟩
theorem parcel_not {w:World} (mb:Nat) (kind:Int) (hk:kind≠1) (a b:Int):Calls Tryz.prog 48 #[.pointer (some ⟨mb,0,none⟩),.agg #[.int .i64 kind,.int .i64 a,.int .i64 b]] w (RetW (.tuple #[.agg #[.int .i64 0,.int .i64 0,.slice none 0 0,.bool false],.bool false]) fun w'=>Chg NoB w w'):=by
 have t1:(kind != 1)=true:=by simpa using hk
 have t2:decide (kind≠1)=true:=decide_eq_true hk
 have t3:(kind == 1)=false:=by simpa using hk
 have t4:decide (kind=1)=false:=decide_eq_false hk
 have c0:=((Chg.refl NoB w).alloc (.cells #[.int .i64 kind,.int .i64 a,.int .i64 b] 57)).alloc (.cells #[.int .i64 0,.int .i64 0,.slice none 0 0,.bool false] 126)
 have HC:=Lib.hid c0
 have hB0:=Blk.new (w.alloc (.cells #[.int .i64 kind,.int .i64 a,.int .i64 b] 57)) #[.int .i64 0,.int .i64 0,.slice none 0 0,.bool false] 126
 have hA0:=(Blk.new w #[.int .i64 kind,.int .i64 a,.int .i64 b] 57).alloc (.cells #[.int .i64 0,.int .i64 0,.slice none 0 0,.bool false] 126)
 rw [World.size_alloc] at hB0
 generalize hw1:(w.alloc (.cells #[.int .i64 kind,.int .i64 a,.int .i64 b] 57)).alloc (.cells #[.int .i64 0,.int .i64 0,.slice none 0 0,.bool false] 126)=w1 at *;have g:=hA0.ever
 have gl:=hA0.everL
 have hB:=Lib.hid hB0
 have cc:=Chg.refl NoB w1
 clear c0 hB0 hA0;go_enter Tryz.func48,Tryz.ntmps48;go_upto_region 1 with fail;clear hw1;have cd:Chg NoB w1 w1.drew:=cc.drew
 refine wp_region_mix 18 [(true,0),(true,1),(true,2),(true,3),(true,4),(true,5),(true,6),(true,7),(true,8),(true,9),(true,10),(true,11),(true,12),(true,13),(true,14),(false,15),(false,16),(true,17)] (fun w'=>Chg NoB w1 w') (by kernel_rfl) (by kernel_rfl) (fun _ _ _ _ _ h=>h) (cc.drew) ?_
 simp only [pickMix_nil,pickMix_cons,Option.getD_some,List.getElem?_toArray,List.getElem?_cons_zero,List.getElem?_cons_succ,List.cons_append,List.nil_append,List.drop_succ_cons,List.drop_zero]
 iterate 4
  refine wpMix_take rfl ?_;apply Exists.intro;refine ⟨fun wS hS=>?_,?_⟩
  ·try dsimp only at hS
   have cS:=hS
   go_simp;try rfl
  simp only [Act.put,List.setIfInBounds_toArray,List.set_cons_zero,List.set_cons_succ]
 first
 | refine wpMix_off (by rfl) ?_
 |(refine wpMix_on (by rfl) ?_
   apply Exists.intro;refine ⟨fun wS hS=>?_,?_⟩
   ·try dsimp only at hS
    have cS:=hS
    go_simp;try rfl)
 simp only [Act.put,List.setIfInBounds_toArray,List.set_cons_zero,List.set_cons_succ]
 first
 | refine wpMix_off (by rfl) ?_
 |(refine wpMix_on (by rfl) ?_
   apply Exists.intro;refine ⟨fun wS hS=>?_,?_⟩
   ·try dsimp only at hS
    have cS:=hS
    go_simp;try rfl)
 simp only [Act.put,List.setIfInBounds_toArray,List.set_cons_zero,List.set_cons_succ]
 first
 | refine wpMix_off (by rfl) ?_
 |(refine wpMix_on (by rfl) ?_
   apply Exists.intro;refine ⟨fun wS hS=>?_,?_⟩
   ·try dsimp only at hS
    have cS:=hS
    go_simp;try rfl)
 simp only [Act.put,List.setIfInBounds_toArray,List.set_cons_zero,List.set_cons_succ]
 iterate 2
  refine wpMix_take rfl ?_;apply Exists.intro;refine ⟨fun wS hS=>?_,?_⟩
  ·try dsimp only at hS
   have cS:=hS
   go_simp;try rfl
  simp only [Act.put,List.setIfInBounds_toArray,List.set_cons_zero,List.set_cons_succ]
 first
 | refine wpMix_off (by rfl) ?_
 |(refine wpMix_on (by rfl) ?_
   apply Exists.intro;refine ⟨fun wS hS=>?_,?_⟩
   ·try dsimp only at hS
    have cS:=hS
    go_simp;try rfl)
 simp only [Act.put,List.setIfInBounds_toArray,List.set_cons_zero,List.set_cons_succ]
 first
 | refine wpMix_off (by rfl) ?_
 |(refine wpMix_on (by rfl) ?_
   apply Exists.intro;refine ⟨fun wS hS=>?_,?_⟩
   ·try dsimp only at hS
    have cS:=hS
    go_simp;try rfl)
 simp only [Act.put,List.setIfInBounds_toArray,List.set_cons_zero,List.set_cons_succ]
 first
 | refine wpMix_off (by rfl) ?_
 |(refine wpMix_on (by rfl) ?_
   apply Exists.intro;refine ⟨fun wS hS=>?_,?_⟩
   ·try dsimp only at hS
    have cS:=hS
    go_simp;try rfl)
 simp only [Act.put,List.setIfInBounds_toArray,List.set_cons_zero,List.set_cons_succ]
 first
 | refine wpMix_off (by rfl) ?_
 |(refine wpMix_on (by rfl) ?_
   apply Exists.intro;refine ⟨fun wS hS=>?_,?_⟩
   ·try dsimp only at hS
    have cS:=hS
    go_simp;try rfl)
 simp only [Act.put,List.setIfInBounds_toArray,List.set_cons_zero,List.set_cons_succ]
 first
 | refine wpMix_off (by rfl) ?_
 |(refine wpMix_on (by rfl) ?_
   apply Exists.intro;refine ⟨fun wS hS=>?_,?_⟩
   ·try dsimp only at hS
    have cS:=hS
    go_simp;try rfl)
 simp only [Act.put,List.setIfInBounds_toArray,List.set_cons_zero,List.set_cons_succ]
 first
 | refine wpMix_off (by rfl) ?_
 |(refine wpMix_on (by rfl) ?_
   apply Exists.intro;refine ⟨fun wS hS=>?_,?_⟩
   ·try dsimp only at hS
    have cS:=hS
    go_simp;try rfl)
 simp only [Act.put,List.setIfInBounds_toArray,List.set_cons_zero,List.set_cons_succ]
 first
 |(refine wpMix_offForce (by rfl) (by with_reducible assumption) ?_
   simp only [Act.put,List.setIfInBounds_toArray,List.set_cons_zero,List.set_cons_succ])
 |(refine wpMix_onForce (by rfl) (fun K hK=>?_)
   go_simp;fail "on")
 first
 |(refine wpMix_offForce (by rfl) (by with_reducible assumption) ?_
   simp only [Act.put,List.setIfInBounds_toArray,List.set_cons_zero,List.set_cons_succ])
 |(refine wpMix_onForce (by rfl) (fun K hK=>?_)
   go_simp;fail "on")
 first
 | refine wpMix_off (by rfl) ?_
 |(refine wpMix_on (by rfl) ?_
   apply Exists.intro;refine ⟨fun wS hS=>?_,?_⟩
   ·try dsimp only at hS
    have cS:=hS
    go_simp;try rfl)
 simp only [Act.put,List.setIfInBounds_toArray,List.set_cons_zero,List.set_cons_succ]
 refine wpMix_nil ?_
 have c2:=cd
 clear cd;have hBd:=c2.blk0 hB.out
 have HCd:=Lib.hid (HC.out.step c2)
 generalize w1.drew=wd at *;have k:=hBd.cell
 have kz:=hBd.frozen
 have kl:=hBd.lt
 have HS:=store_all hBd [.int .i64 0,.int .i64 0,.slice none 0 0,.bool false] rfl
 have HF:Hid (Chg NoB w (wd.setCells (w.heap.size+1) 0 [.int .i64 0,.int .i64 0,.slice none 0 0,.bool false])):=Lib.hid (((HCd.out.mono (S':=fun k=>w.heap.size≤k) fun _ _ e=>e.elim).trans (HS.2.mono (S':=fun k=>w.heap.size≤k) fun k _ e=>by have:k=w.heap.size+1:=e;omega) fun _ _ e=>e).mono fun k hk e=>absurd e (Nat.not_le_of_lt hk))
 obtain ⟨w2,hw2⟩:∃x,wd.setCells (w.heap.size+1) 0 [.int .i64 0,.int .i64 0,.slice none 0 0,.bool false]=x:=⟨_,rfl⟩
 rw [hw2] at HF HS
 replace hw2:((((wd.setCell ⟨w.heap.size+1,0,none⟩ (.int .i64 0)).setCell ⟨w.heap.size+1,1,none⟩ (.int .i64 0)).setCell ⟨w.heap.size+1,2,none⟩ (.slice none 0 0)).setCell ⟨w.heap.size+1,3,none⟩ (.bool false))=w2:=hw2
 have q:=HS.1.cell
 clear c2 cc hB hBd g gl HS;go_wp2_with fail;exact bodyPost_ret (v:=.tuple #[.agg #[.int .i64 0,.int .i64 0,.slice none 0 0,.bool false],.bool false]) (by simp [results,Tryz.results48,go_sem,q]) rfl ⟨rfl,HF.out⟩
theorem parcel_none {w:World} {F0:Nat→Prop} {mb cb n sh:Nat} {nb:Nat→Nat} {x:Cst} {t:Nat→Int} (hM:MtAt w mb cb t) (hO:COwn w F0 cb n sh nb x) (a b:Int) (ha:0≤a):Calls Tryz.prog 48 #[.pointer (some ⟨mb,0,none⟩),.agg #[.int .i64 1,.int .i64 a,.int .i64 b]] w (RetW (.tuple #[.agg #[.int .i64 0,.int .i64 0,.slice none 0 0,.bool false],.bool false]) fun w'=>Chg NoB w w'):=by
 have t1:decide (a<0)=false:=decide_eq_false (by omega)
 have t2:decide (0≤a)=true:=decide_eq_true ha
 have c0:=((Chg.refl NoB w).alloc (.cells #[.int .i64 1,.int .i64 a,.int .i64 b] 57)).alloc (.cells #[.int .i64 0,.int .i64 0,.slice none 0 0,.bool false] 126)
 have HC:=Lib.hid c0
 have hM0:MtAt _ mb cb t:=c0.blk0 hM
 have HBg:=Lib.hid fun w' (k:Chg NoB ((w.alloc (.cells #[.int .i64 1,.int .i64 a,.int .i64 b] 57)).alloc (.cells #[.int .i64 0,.int .i64 0,.slice none 0 0,.bool false] 126)) w')=>cBag_q ((hO.chg0 c0).chg0 k)
 have hB0:=Blk.new (w.alloc (.cells #[.int .i64 1,.int .i64 a,.int .i64 b] 57)) #[.int .i64 0,.int .i64 0,.slice none 0 0,.bool false] 126
 have hA0:=(Blk.new w #[.int .i64 1,.int .i64 a,.int .i64 b] 57).alloc (.cells #[.int .i64 0,.int .i64 0,.slice none 0 0,.bool false] 126)
 rw [World.size_alloc] at hB0
 generalize hw1:(w.alloc (.cells #[.int .i64 1,.int .i64 a,.int .i64 b] 57)).alloc (.cells #[.int .i64 0,.int .i64 0,.slice none 0 0,.bool false] 126)=w1 at *;have g:=hA0.ever
 have gl:=hA0.everL
 have m:=Blk.ever hM0
 have ml:=Blk.everL hM0
 have hB:=Lib.hid hB0
 have cc:=Chg.refl NoB w1
 clear c0 hB0 hA0 hM0 hM hO;go_enter Tryz.func48,Tryz.ntmps48;go_upto_region 1 with fail;clear hw1;have cd:Chg NoB w1 w1.drew:=cc.drew
 refine wp_region_mix 18 [(true,0),(true,1),(true,2),(true,3),(true,4),(true,5),(true,6),(true,7),(true,8),(true,9),(true,10),(true,11),(true,12),(true,13),(true,14),(false,15),(false,16),(true,17)] (fun w'=>Chg NoB w1 w') (by kernel_rfl) (by kernel_rfl) (fun _ _ _ _ _ h=>h) (cc.drew) ?_
 simp only [pickMix_nil,pickMix_cons,Option.getD_some,List.getElem?_toArray,List.getElem?_cons_zero,List.getElem?_cons_succ,List.cons_append,List.nil_append,List.drop_succ_cons,List.drop_zero]
 iterate 4
  refine wpMix_take rfl ?_;apply Exists.intro;refine ⟨fun wS hS=>?_,?_⟩
  ·try dsimp only at hS
   have cS:=hS
   go_simp;try rfl
  simp only [Act.put,List.setIfInBounds_toArray,List.set_cons_zero,List.set_cons_succ]
 first
 | refine wpMix_off (by rfl) ?_
 |(refine wpMix_on (by rfl) ?_
   apply Exists.intro;refine ⟨fun wS hS=>?_,?_⟩
   ·try dsimp only at hS
    have cS:=hS
    go_simp;try rfl)
 simp only [Act.put,List.setIfInBounds_toArray,List.set_cons_zero,List.set_cons_succ]
 first
 | refine wpMix_off (by rfl) ?_
 |(refine wpMix_on (by rfl) ?_
   apply Exists.intro;refine ⟨fun wS hS=>?_,?_⟩
   ·try dsimp only at hS
    have cS:=hS
    go_simp;try rfl)
 simp only [Act.put,List.setIfInBounds_toArray,List.set_cons_zero,List.set_cons_succ]
 first
 | refine wpMix_off (by rfl) ?_
 |(refine wpMix_on (by rfl) ?_
   apply Exists.intro;refine ⟨fun wS hS=>?_,?_⟩
   ·try dsimp only at hS
    have cS:=hS
    go_simp;try rfl)
 simp only [Act.put,List.setIfInBounds_toArray,List.set_cons_zero,List.set_cons_succ]
 iterate 2
  refine wpMix_take rfl ?_;apply Exists.intro;refine ⟨fun wS hS=>?_,?_⟩
  ·try dsimp only at hS
   have cS:=hS
   go_simp;try rfl
  simp only [Act.put,List.setIfInBounds_toArray,List.set_cons_zero,List.set_cons_succ]
 first
 | refine wpMix_off (by rfl) ?_
 |(refine wpMix_on (by rfl) ?_
   apply Exists.intro;refine ⟨fun wS hS=>?_,?_⟩
   ·try dsimp only at hS
    have cS:=hS
    go_simp;try rfl)
 simp only [Act.put,List.setIfInBounds_toArray,List.set_cons_zero,List.set_cons_succ]
 first
 | refine wpMix_off (by rfl) ?_
 |(refine wpMix_on (by rfl) ?_
   apply Exists.intro;refine ⟨fun wS hS=>?_,?_⟩
   ·try dsimp only at hS
    have cS:=hS
    go_simp;try rfl)
 simp only [Act.put,List.setIfInBounds_toArray,List.set_cons_zero,List.set_cons_succ]
 first
 | refine wpMix_off (by rfl) ?_
 |(refine wpMix_on (by rfl) ?_
   apply Exists.intro;refine ⟨fun wS hS=>?_,?_⟩
   ·try dsimp only at hS
    have cS:=hS
    go_simp;try rfl)
 simp only [Act.put,List.setIfInBounds_toArray,List.set_cons_zero,List.set_cons_succ]
 first
 | refine wpMix_off (by rfl) ?_
 |(refine wpMix_on (by rfl) ?_
   apply Exists.intro;refine ⟨fun wS hS=>?_,?_⟩
   ·try dsimp only at hS
    have cS:=hS
    go_simp;try rfl)
 simp only [Act.put,List.setIfInBounds_toArray,List.set_cons_zero,List.set_cons_succ]
 first
 | refine wpMix_off (by rfl) ?_
 |(refine wpMix_on (by rfl) ?_
   apply Exists.intro;refine ⟨fun wS hS=>?_,?_⟩
   ·try dsimp only at hS
    have cS:=hS
    go_simp;try rfl)
 simp only [Act.put,List.setIfInBounds_toArray,List.set_cons_zero,List.set_cons_succ]
 first
 | refine wpMix_off (by rfl) ?_
 |(refine wpMix_on (by rfl) ?_
   apply Exists.intro;refine ⟨fun wS hS=>?_,?_⟩
   ·try dsimp only at hS
    have cS:=hS
    go_simp;try rfl)
 simp only [Act.put,List.setIfInBounds_toArray,List.set_cons_zero,List.set_cons_succ]
 first
 |(refine wpMix_offForce (by rfl) (by with_reducible assumption) ?_
   simp only [Act.put,List.setIfInBounds_toArray,List.set_cons_zero,List.set_cons_succ])
 |(refine wpMix_onForce (by rfl) (fun K hK=>?_)
   go_simp;refine (HBg.out _ cd).mono ?_
   rintro e w9 ⟨bag,rfl,hbg,hw⟩;subst hw;refine hK _ _ cd ?_
   clear hK K)
 first
 |(refine wpMix_offForce (by rfl) (by with_reducible assumption) ?_
   simp only [Act.put,List.setIfInBounds_toArray,List.set_cons_zero,List.set_cons_succ])
 |(refine wpMix_onForce (by rfl) (fun K hK=>?_)
   go_simp;refine (bLen_none hbg).mono ?_
   rintro e w9 ⟨rfl,hw⟩;subst hw;refine hK _ _ cd ?_
   clear hK K)
 first
 | refine wpMix_off (by rfl) ?_
 |(refine wpMix_on (by rfl) ?_
   apply Exists.intro;refine ⟨fun wS hS=>?_,?_⟩
   ·try dsimp only at hS
    have cS:=hS
    go_simp;try rfl)
 simp only [Act.put,List.setIfInBounds_toArray,List.set_cons_zero,List.set_cons_succ]
 refine wpMix_nil ?_
 have c2:=cd
 clear cd;have hBd:=c2.blk0 hB.out
 have HCd:=Lib.hid (HC.out.step c2)
 generalize w1.drew=wd at *;have k:=hBd.cell
 have kz:=hBd.frozen
 have kl:=hBd.lt
 have HS:=store_all hBd [.int .i64 0,.int .i64 0,.slice none 0 0,.bool false] rfl
 have HF:Hid (Chg NoB w (wd.setCells (w.heap.size+1) 0 [.int .i64 0,.int .i64 0,.slice none 0 0,.bool false])):=Lib.hid (((HCd.out.mono (S':=fun k=>w.heap.size≤k) fun _ _ e=>e.elim).trans (HS.2.mono (S':=fun k=>w.heap.size≤k) fun k _ e=>by have:k=w.heap.size+1:=e;omega) fun _ _ e=>e).mono fun k hk e=>absurd e (Nat.not_le_of_lt hk))
 obtain ⟨w2,hw2⟩:∃x,wd.setCells (w.heap.size+1) 0 [.int .i64 0,.int .i64 0,.slice none 0 0,.bool false]=x:=⟨_,rfl⟩
 rw [hw2] at HF HS
 replace hw2:((((wd.setCell ⟨w.heap.size+1,0,none⟩ (.int .i64 0)).setCell ⟨w.heap.size+1,1,none⟩ (.int .i64 0)).setCell ⟨w.heap.size+1,2,none⟩ (.slice none 0 0)).setCell ⟨w.heap.size+1,3,none⟩ (.bool false))=w2:=hw2
 have q:=HS.1.cell
 clear c2 cc hB hBd g gl HS m ml;go_wp2_with fail;exact bodyPost_ret (v:=.tuple #[.agg #[.int .i64 0,.int .i64 0,.slice none 0 0,.bool false],.bool false]) (by simp [results,Tryz.results48,go_sem,q]) rfl ⟨rfl,HF.out⟩
theorem chg_fresh {S:Nat→Prop} {w w4 w5:World} {b:Nat} (h:Chg S w w4) (c:Chg (fun k=>k=b) w4 w5) (hb:w.heap.size≤b):Chg S w w5:=
 ((h.mono (S':=fun k=>S k∨w.heap.size≤k) fun _ _ e=>.inl e).trans (c.mono (S':=fun k=>S k∨w.heap.size≤k) fun k _ e=>.inr (by rw [show k=b from e];exact hb)) fun _ _ e=>e).mono fun k hk e=>e.elim id fun e=>absurd e (Nat.not_le_of_lt hk)
theorem mDo_bad {w:World} {mb cb:Nat} {t:Nat→Int} (hM:MtAt w mb cb t) (ht:0≤t 12∧t 12<1099511627776) (S:Nat→Prop) (hS:¬S mb) (hSb:∀k,S k→k<w.heap.size) (Q:World→Nat→Prop) (Q':World→Prop) (kind a b what:Int) (done:Bool) (op rd rs rt im:Int) (pc:Int) (cause access:Int) (addr:Int) (size:Int) (old new ev:Int)
  (hP:∀w',Chg NoB w w'→Calls Tryz.prog 48 #[.pointer (some ⟨mb,0,none⟩),.agg #[.int .i64 kind,.int .i64 a,.int .i64 b]] w' (RetW (.tuple #[.agg #[.int .i64 0,.int .i64 0,.slice none 0 0,.bool false],.bool false]) fun w''=>Chg NoB w' w''))
  (hD:∀w',Chg NoB w w'→Calls Tryz.prog 49 #[.pointer (some ⟨cb,0,none⟩),.agg #[.int .i64 kind,.int .i64 a,.int .i64 b]] w' (RetW (.tuple #[.agg #[.int .i64 what,.bool done,.int .i64 op,.int .i64 rd,.int .i64 rs,.int .i64 rt,.int .i64 im,.int .u64 pc,.int .i64 cause,.int .i64 access,.int .u64 addr,.int .i64 size,.int .u64 old,.int .u64 new,.int .i64 ev],.bool false]) fun w''=>Q w'' w'.heap.size∧Chg S w' w''))
  (hQ:∀w1 w2 b,Q w1 b→Chg (fun k=>k=mb∨(w.heap.size≤k∧k<b)) w1 w2→Q' w2) :
  Calls Tryz.prog 31 #[.pointer (some ⟨mb,0,none⟩),.agg #[.int .i64 kind,.int .i64 a,.int .i64 b]] w (RetW (.tuple #[.agg #[.int .i64 what,.bool done,.int .i64 op,.int .i64 rd,.int .i64 rs,.int .i64 rt,.int .i64 im,.int .u64 pc,.int .i64 cause,.int .i64 access,.int .u64 addr,.int .i64 size,.int .u64 old,.int .u64 new,.int .i64 ev],.bool false]) fun w'=>MtAt w' mb cb (updN t 12 (t 12+1))∧Q' w'∧Chg (fun k=>S k∨k=mb) w w'):=by
 have HP:=Lib.hid hP
 have HD:=Lib.hid hD
 have HQ:=Lib.hid hQ
 have HS:=Lib.hid hS
 have c0:=((Chg.refl NoB w).alloc (.cells #[.int .i64 kind,.int .i64 a,.int .i64 b] 57)).alloc (.cells #[.int .i64 0,.bool false,.int .i64 0,.int .i64 0,.int .i64 0,.int .i64 0,.int .i64 0,.int .u64 0,.int .i64 0,.int .i64 0,.int .u64 0,.int .i64 0,.int .u64 0,.int .u64 0,.int .i64 0] 86)
 have HC:=Lib.hid c0
 have hB0:=Blk.new (w.alloc (.cells #[.int .i64 kind,.int .i64 a,.int .i64 b] 57)) #[.int .i64 0,.bool false,.int .i64 0,.int .i64 0,.int .i64 0,.int .i64 0,.int .i64 0,.int .u64 0,.int .i64 0,.int .i64 0,.int .u64 0,.int .i64 0,.int .u64 0,.int .u64 0,.int .i64 0] 86
 have hA0:=(Blk.new w #[.int .i64 kind,.int .i64 a,.int .i64 b] 57).alloc (.cells #[.int .i64 0,.bool false,.int .i64 0,.int .i64 0,.int .i64 0,.int .i64 0,.int .i64 0,.int .u64 0,.int .i64 0,.int .i64 0,.int .u64 0,.int .i64 0,.int .u64 0,.int .u64 0,.int .i64 0] 86)
 rw [World.size_alloc] at hB0
 have HM:=Lib.hid (c0.blk0 hM)
 generalize hw1:(w.alloc (.cells #[.int .i64 kind,.int .i64 a,.int .i64 b] 57)).alloc (.cells #[.int .i64 0,.bool false,.int .i64 0,.int .i64 0,.int .i64 0,.int .i64 0,.int .i64 0,.int .u64 0,.int .i64 0,.int .i64 0,.int .u64 0,.int .i64 0,.int .u64 0,.int .u64 0,.int .i64 0] 86)=w1 at *;have HB:=Lib.hid hB0
 have HA:=Lib.hid hA0
 have k1:=hA0.cell
 have k1l:=hA0.lt
 have HP1:=Lib.hid (HP.out w1 HC.out)
 clear c0 hB0 hA0 hP hD hQ hS hM;go_enter Tryz.func31,Tryz.ntmps31;go_wp2_with fail;with_reducible refine HP1.out.mono ?_
 rintro e w2 ⟨rfl,hC2⟩;have c2:=(hC2.alloc (.cells #[.int .i64 0,.int .i64 0,.slice none 0 0,.bool false] 126))
 have HC2:=Lib.hid (HC.out.step c2)
 have HA2:=Lib.hid (c2.blk0 HA.out)
 have HB2:=Lib.hid (c2.blk0 HB.out)
 have HM2:=Lib.hid (c2.blk0 HM.out)
 clear c2 hC2 k1 k1l HC HA HB HM HP1 HP hw1;go_upto_region 4 with fail;generalize hw3:w2.alloc (.cells #[.int .i64 0,.int .i64 0,.slice none 0 0,.bool false] 126)=w3 at *;clear hw3;have HDw:=Lib.hid fun w' (k:Chg NoB w3 w')=>HD.out w' (HC2.out.step k)
 have HZ:=Lib.hid (And.intro HC2.out.size (And.intro HB2.out.lt hSb))
 have HC:Hid (Chg NoB w3 w3):=Lib.hid (Chg.refl _ _)
 have HM:=Lib.hid HM2.out
 have HA:=Lib.hid HA2.out
 have HB:=Lib.hid HB2.out
 clear HD hSb;go_cut [8,9] (fun s8 s9 wx=>∃(vb bn:Nat) (w4:World),s8 = .pointer (some ⟨vb,0,none⟩)∧s9 = .bool false∧Blk wx vb #[.int .i64 what,.bool done,.int .i64 op,.int .i64 rd,.int .i64 rs,.int .i64 rt,.int .i64 im,.int .u64 pc,.int .i64 cause,.int .i64 access,.int .u64 addr,.int .i64 size,.int .u64 old,.int .u64 new,.int .i64 ev] 86∧Q w4 bn∧w3.heap.size≤bn∧w3.heap.size≤vb∧Chg (fun k=>w3.heap.size≤k∧k<bn) w4 wx∧Chg S w3 wx∧MtAt wx mb cb t∧Blk wx w.heap.size #[.int .i64 kind,.int .i64 a,.int .i64 b] 57∧Blk wx (w.heap.size+1) #[.int .i64 0,.bool false,.int .i64 0,.int .i64 0,.int .i64 0,.int .i64 0,.int .i64 0,.int .u64 0,.int .i64 0,.int .i64 0,.int .u64 0,.int .i64 0,.int .u64 0,.int .u64 0,.int .i64 0] 86)
 case first=>
  have hr:∀(k:Nat),k<w3.heap.size→¬S k→¬(S k∨w3.heap.size≤k):=fun k h1 h2 e=>e.elim h2 fun e=>by omega
  have m0:∀w',Chg (fun k=>S k∨w3.heap.size≤k) w3 w'→w'.cell? ⟨mb,0,none⟩=some (.pointer (some ⟨cb,0,none⟩)):=fun w' k=>(k.blk HM.out (hr _ HM.out.lt HS.out)).cell' (i:=0) rfl
  have ml:∀w',Chg (fun k=>S k∨w3.heap.size≤k) w3 w'→mb<w'.heap.size:=fun w' k=>(k.blk HM.out (hr _ HM.out.lt HS.out)).lt
  have hna:¬S w.heap.size:=fun e=>absurd (HZ.out.2.2 _ e) (Nat.lt_irrefl _)
  have a0:∀w',Chg (fun k=>S k∨w3.heap.size≤k) w3 w'→∀i,w'.cell? ⟨w.heap.size,i,none⟩=_:=fun w' k i=>(k.blk HA.out (hr _ HA.out.lt hna)).cell i
  have al:∀w',Chg (fun k=>S k∨w3.heap.size≤k) w3 w'→w.heap.size<w'.heap.size:=fun w' k=>(k.blk HA.out (hr _ HA.out.lt hna)).lt
  have cs:=Chg.refl (fun k=>S k∨w3.heap.size≤k) w3
  have cn:=Chg.refl NoB w3
  go_region_held3 (fun w'=>Chg (fun k=>S k∨w3.heap.size≤k) w3 w') ((repeat (first | with_reducible assumption | with_reducible apply Chg.drew | with_reducible apply Chg.drewN | with_reducible apply Chg.alloc | with_reducible refine Chg.setCell ?_ (.inl (.inr (Nat.le_refl _))) _))) (first | (go_at_call 49;(with_reducible refine (HDw.out _ (by (repeat (first | with_reducible assumption | with_reducible apply Chg.drew | with_reducible apply Chg.drewN | with_reducible apply Chg.alloc)))).mono ?_);rintro e w4 ⟨rfl,hQ4,hC4⟩;have h4:Chg (fun k=>S k∨w3.heap.size≤k) w3 w4:=Chg.trans (S:=fun k=>S k∨w3.heap.size≤k) (by with_reducible assumption) (hC4.mono fun _ _ e=>.inl e) (fun _ _ e=>e);try (have hv:=hC4.blk (Blk.new w3 #[.int .i64 0,.bool false,.int .i64 0,.int .i64 0,.int .i64 0,.int .i64 0,.int .i64 0,.int .u64 0,.int .i64 0,.int .i64 0,.int .u64 0,.int .i64 0,.int .u64 0,.int .u64 0,.int .i64 0] 86).drew (fun e=>by have h1:=HZ.out.2.2 _ e;have h2:=HZ.out.1;omega);have hv1:=hv.cell;have hv2:=hv.frozen;have hv3:=hv.lt)))
  ·have hS3:Chg S w3 w4:=((Chg.refl NoB w3).drew.mono fun _ _ e=>e.elim).trans hC4 fun _ _ e=>e
   have hz:=hS3.size
   have hW:=hS3.alloc (.cells #[.int .i64 what,.bool done,.int .i64 op,.int .i64 rd,.int .i64 rs,.int .i64 rt,.int .i64 im,.int .u64 pc,.int .i64 cause,.int .i64 access,.int .u64 addr,.int .i64 size,.int .u64 old,.int .u64 new,.int .i64 ev] 86)
   have HE:=Lib.hid (And.intro (hW.blk HM.out HS.out) (And.intro (hW.blk HA.out hna) (And.intro (hW.blk HB.out (fun e=>absurd (HZ.out.2.2 _ e) (by omega))) (And.intro hW (And.intro hQ4 hz)))))
   clear hS3 hz hW hQ4 hC4 h4 m0 ml a0 al cs cn hr hna;go_wp2_with fail;go_meet
   exact ⟨w4.heap.size,w3.heap.size,w4,rfl,rfl,Blk.new w4 _ _,HE.out.2.2.2.2.1,Nat.le_refl _,HE.out.2.2.2.2.2,(Chg.refl _ w4).alloc _,HE.out.2.2.2.1,HE.out.1,HE.out.2.1,HE.out.2.2.1⟩
  ·have hS3:Chg S w3 w4:=((((Chg.refl NoB w3).alloc (.cells #[.int .i64 0,.bool false,.int .i64 0,.int .i64 0,.int .i64 0,.int .i64 0,.int .i64 0,.int .u64 0,.int .i64 0,.int .i64 0,.int .u64 0,.int .i64 0,.int .u64 0,.int .u64 0,.int .i64 0] 86)).drew).mono fun _ _ e=>e.elim).trans hC4 fun _ _ e=>e
   have hz:=hS3.size
   have hS1:=store_all hv [.int .i64 what,.bool done,.int .i64 op,.int .i64 rd,.int .i64 rs,.int .i64 rt,.int .i64 im,.int .u64 pc,.int .i64 cause,.int .i64 access,.int .u64 addr,.int .i64 size,.int .u64 old,.int .u64 new,.int .i64 ev] rfl
   have hW:Chg S w3 (w4.setCells w3.heap.size 0 [.int .i64 what,.bool done,.int .i64 op,.int .i64 rd,.int .i64 rs,.int .i64 rt,.int .i64 im,.int .u64 pc,.int .i64 cause,.int .i64 access,.int .u64 addr,.int .i64 size,.int .u64 old,.int .u64 new,.int .i64 ev]):=chg_fresh hS3 hS1.2 (Nat.le_refl _)
   have hQ5:Q w4 (w3.heap.size+1):=by
    have e:((w3.alloc (.cells #[.int .i64 0,.bool false,.int .i64 0,.int .i64 0,.int .i64 0,.int .i64 0,.int .i64 0,.int .u64 0,.int .i64 0,.int .i64 0,.int .u64 0,.int .i64 0,.int .u64 0,.int .u64 0,.int .i64 0] 86)).drew).heap.size=w3.heap.size+1:=World.size_alloc ..
    rw [e] at hQ4
    exact hQ4
   have HE:=Lib.hid (And.intro (hW.blk HM.out HS.out) (And.intro (hW.blk HA.out hna) (And.intro (hW.blk HB.out (fun e=>absurd (HZ.out.2.2 _ e) (by omega))) (And.intro hW (And.intro hQ5 (And.intro hS1.1 (hS1.2.mono (S':=fun k=>w3.heap.size≤k∧k<w3.heap.size+1) fun k _ e=>by have:k=w3.heap.size:=e;omega)))))))
   obtain ⟨wS,hwS⟩:∃x,w4.setCells w3.heap.size 0 [.int .i64 what,.bool done,.int .i64 op,.int .i64 rd,.int .i64 rs,.int .i64 rt,.int .i64 im,.int .u64 pc,.int .i64 cause,.int .i64 access,.int .u64 addr,.int .i64 size,.int .u64 old,.int .u64 new,.int .i64 ev]=x:=⟨_,rfl⟩
   rw [hwS] at HE
   replace hwS:((((((((((((((w4.setCell ⟨w3.heap.size,0,none⟩ (.int .i64 what)).setCell ⟨w3.heap.size,1,none⟩ (.bool done)).setCell ⟨w3.heap.size,2,none⟩ (.int .i64 op)).setCell ⟨w3.heap.size,3,none⟩ (.int .i64 rd)).setCell ⟨w3.heap.size,4,none⟩ (.int .i64 rs)).setCell ⟨w3.heap.size,5,none⟩ (.int .i64 rt)).setCell ⟨w3.heap.size,6,none⟩ (.int .i64 im)).setCell ⟨w3.heap.size,7,none⟩ (.int .u64 pc)).setCell ⟨w3.heap.size,8,none⟩ (.int .i64 cause)).setCell ⟨w3.heap.size,9,none⟩ (.int .i64 access)).setCell ⟨w3.heap.size,10,none⟩ (.int .u64 addr)).setCell ⟨w3.heap.size,11,none⟩ (.int .i64 size)).setCell ⟨w3.heap.size,12,none⟩ (.int .u64 old)).setCell ⟨w3.heap.size,13,none⟩ (.int .u64 new)).setCell ⟨w3.heap.size,14,none⟩ (.int .i64 ev)=wS:=hwS
   clear hS3 hz hW hQ4 hQ5 hC4 h4 m0 ml a0 al cs cn hr hna hS1 hv hv1 hv2 hv3;try simp only [hwS]
   go_wp2_with fail;go_meet
   exact ⟨w3.heap.size,w3.heap.size+1,w4,rfl,rfl,HE.out.2.2.2.2.2.1,HE.out.2.2.2.2.1,by omega,Nat.le_refl _,HE.out.2.2.2.2.2.2,HE.out.2.2.2.1,HE.out.1,HE.out.2.1,HE.out.2.2.1⟩
 case rest=>
  obtain ⟨vb,bn,w4,rfl,rfl,hV,hQ4,hbn,hvb,hC4,hS4,hM4,hA4,hB4⟩:=hcut
  have n1:=blk_type hM4 hB4 (by decide)
  have n2:=blk_type hM4 hV (by decide)
  have z1:=HZ.out.1
  have z2:=HZ.out.2.1
  have h6:=hM4.set 13 (.int .i64 (t 12+1))
  have C6:Chg (fun k=>k=mb) wc (wc.setCell ⟨mb,13,none⟩ (.int .i64 (t 12+1))):=(Chg.refl (fun k=>k=mb) wc).setCell (a:=⟨mb,13,none⟩) (.inl rfl) _
  have hM6:MtAt (wc.setCell ⟨mb,13,none⟩ (.int .i64 (t 12+1))) mb cb (updN t 12 (t 12+1)):=h6
  have hV6:=C6.blk hV (fun e=>n2 e.symm)
  have hB6:=C6.blk hB4 (fun e=>n1 e.symm)
  have k0:=hM4.cell
  have kz:=hM4.frozen
  have kl:=hM4.lt
  obtain ⟨w6,hw6⟩:∃x,wc.setCell ⟨mb,13,none⟩ (.int .i64 (t 12+1))=x:=⟨_,rfl⟩
  rw [hw6] at C6 hM6 hV6 hB6
  have HS2:=store_all hB6 [.int .i64 what,.bool done,.int .i64 op,.int .i64 rd,.int .i64 rs,.int .i64 rt,.int .i64 im,.int .u64 pc,.int .i64 cause,.int .i64 access,.int .u64 addr,.int .i64 size,.int .u64 old,.int .u64 new,.int .i64 ev] rfl
  have hM8:=HS2.2.blk hM6 n1
  have hq:=HQ.out w4 _ bn hQ4 (((hC4.mono (S':=fun k=>k=mb∨w.heap.size≤k∧k<bn) fun k _ e=>.inr ⟨by omega,e.2⟩).trans (C6.mono (S':=fun k=>k=mb∨w.heap.size≤k∧k<bn) fun _ _ e=>.inl e) fun _ _ e=>e).trans (HS2.2.mono (S':=fun k=>k=mb∨w.heap.size≤k∧k<bn) fun k _ e=>.inr (by have:k=w.heap.size+1:=e;omega)) fun _ _ e=>e)
  have hW6:Chg (fun k=>S k∨k=mb) w w6:=((HC2.out.mono (S':=fun k=>S k∨k=mb) fun _ _ e=>e.elim).trans (hS4.mono (S':=fun k=>S k∨k=mb) fun _ _ e=>.inl e) fun _ _ e=>e).trans (C6.mono (S':=fun k=>S k∨k=mb) fun _ _ e=>.inr e) fun _ _ e=>e
  have hW:=chg_fresh hW6 HS2.2 (by omega)
  have HF:=Lib.hid (And.intro hM8 (And.intro hq hW))
  obtain ⟨w8,hw8⟩:∃x,w6.setCells (w.heap.size+1) 0 [.int .i64 what,.bool done,.int .i64 op,.int .i64 rd,.int .i64 rs,.int .i64 rt,.int .i64 im,.int .u64 pc,.int .i64 cause,.int .i64 access,.int .u64 addr,.int .i64 size,.int .u64 old,.int .u64 new,.int .i64 ev]=x:=⟨_,rfl⟩
  rw [hw8] at HF HS2
  replace hw8:((((((((((((((w6.setCell ⟨w.heap.size+1,0,none⟩ (.int .i64 what)).setCell ⟨w.heap.size+1,1,none⟩ (.bool done)).setCell ⟨w.heap.size+1,2,none⟩ (.int .i64 op)).setCell ⟨w.heap.size+1,3,none⟩ (.int .i64 rd)).setCell ⟨w.heap.size+1,4,none⟩ (.int .i64 rs)).setCell ⟨w.heap.size+1,5,none⟩ (.int .i64 rt)).setCell ⟨w.heap.size+1,6,none⟩ (.int .i64 im)).setCell ⟨w.heap.size+1,7,none⟩ (.int .u64 pc)).setCell ⟨w.heap.size+1,8,none⟩ (.int .i64 cause)).setCell ⟨w.heap.size+1,9,none⟩ (.int .i64 access)).setCell ⟨w.heap.size+1,10,none⟩ (.int .u64 addr)).setCell ⟨w.heap.size+1,11,none⟩ (.int .i64 size)).setCell ⟨w.heap.size+1,12,none⟩ (.int .u64 old)).setCell ⟨w.heap.size+1,13,none⟩ (.int .u64 new)).setCell ⟨w.heap.size+1,14,none⟩ (.int .i64 ev)=w8:=hw8
  have e1:IntKind.i64.wrap (t 12+1)=t 12+1:=IntWalk.i64_in _ (by omega)
  have y0:=hV6.cell
  have yl:=hV6.lt
  have y6:=hB6.cell
  have y7:=hB6.frozen
  have y8:=hB6.lt
  have q:=HS2.1.cell
  have ql:=HS2.1.lt
  clear HS2 hM8 hq hW6 hW hV6 hB6 hM6 C6 h6 n1 n2 z1 z2 hV hQ4 hbn hvb hC4 hS4 hM4 hA4 hB4 HM HA HB HC HZ HDw ht HC2 HA2 HB2 HM2;go_wp2_with fail;exact bodyPost_ret (v:=.tuple #[.agg #[.int .i64 what,.bool done,.int .i64 op,.int .i64 rd,.int .i64 rs,.int .i64 rt,.int .i64 im,.int .u64 pc,.int .i64 cause,.int .i64 access,.int .u64 addr,.int .i64 size,.int .u64 old,.int .u64 new,.int .i64 ev],.bool false]) (by simp [results,Tryz.results31,go_sem,q]) rfl ⟨rfl,HF.out.1,HF.out.2.1,HF.out.2.2⟩
end Go.Proofs.YtjhnnjgnkkjmkaaGreatDoor
