/- Two tallies added. Printed by mk_mt6.py. No condition. -/
import Derived.Test.YtjhnnjgnkkjmkaaGreatDoorIm
import Derived.Test.YtjhnnjgnkkjmkaaGreatDoorIr
set_option maxHeartbeats 4000000
set_option maxRecDepth 100000
set_option linter.unusedVariables false
set_option linter.unusedSimpArgs false
namespace Go.Proofs.YtjhnnjgnkkjmkaaGreatDoor
open Go.RowKit Go.RR
theorem tal_at (t:Nat→Int) {k:Nat} (h:k<24):(tallyC t)[k]? = some (.int .i64 (t k)):=by
 unfold tallyC
 iterate 24 (rcases k with _ | k;· rfl)
 omega
theorem tal_put (t:Nat→Int) {k:Nat} (h:k<24) (x:Int):(tallyC t).setIfInBounds k (.int .i64 x)=tallyC (updN t k x):=by
 unfold tallyC
 iterate 24 (rcases k with _ | k;· rfl)
 omega
def addT (t u:Nat→Int) (off n:Nat) (k:Nat):Int:=if off≤k∧k<off+n then t k+u k else t k
theorem addT_zero (t u:Nat→Int) (off:Nat):addT t u off 0=t:=by
 funext k
 unfold addT
 rw [if_neg (by omega)]
theorem addT_next (t u:Nat→Int) (off n:Nat):updN (addT t u off n) (off+n) (addT t u off n (off+n)+u (off+n))=addT t u off (n+1):=by
 funext k
 unfold updN addT
 by_cases e:k=off+n
 ·subst e;rw [if_pos rfl,if_neg (by omega),if_pos (by omega)]
 ·rw [if_neg e]
  by_cases h:off≤k∧k<off+n
  ·rw [if_pos h,if_pos (by omega)]
  ·rw [if_neg h,if_neg (by omega)]
theorem addT_at (t u:Nat→Int) (off n:Nat):addT t u off n (off+n)=t (off+n):=if_neg (by omega)
theorem added_any {w:World} {ab bb off n:Nat} {t u:Nat→Int} (hA:Blk w ab (tallyC t) 26) (hB:Blk w bb (tallyC u) 26) (hne:ab≠bb) (hon:off+n≤24) (ht:∀k,-2199023255552≤t k∧t k≤2199023255552) (hu:∀k,-2199023255552≤u k∧u k≤2199023255552) :
  Calls Tryz.prog 23 #[.slice (some ⟨ab,off,none⟩) n n,.slice (some ⟨bb,off,none⟩) n n] w (RetW (.tuple #[]) fun w'=>Blk w' ab (tallyC (addT t u off n)) 26∧Chg (fun k=>k=ab) w w'):=by
 have HA:=Lib.hid hA
 have HB:=Lib.hid hB
 have HX:=Lib.hid (And.intro hne (And.intro hon (And.intro ht hu)))
 clear hA hB hne ht hu;go_enter Tryz.func23,Tryz.ntmps23;go_wp2_with fail;go_loopg [8] n (fun k iv wr=>∃i:Nat,i+k=n∧iv = .int .i64 i∧Blk wr ab (tallyC (addT t u off i)) 26∧Chg (fun k=>k=ab) w wr)
 case atStart=>exact ⟨0,by omega,rfl,by rw [addT_zero];exact HA.out,Chg.refl _ _⟩
 case round=>
  obtain ⟨i,hk,rfl,hA,hC⟩:=hrel
  rename World=>wr;have HK:=Lib.hid hk
  have HC:=Lib.hid hC
  have HAr:=Lib.hid hA
  clear hk hC hA;by_cases hi:i<n
  ·have t1:decide ((i:Int)<n)=true:=decide_eq_true (by omega)
   have t2:decide (i<n)=true:=decide_eq_true hi
   have x0:wr.cell? ⟨bb,off+i,none⟩=some (.int .i64 (u (off+i))):=(HC.out.blk HB.out (fun e=>HX.out.1 e.symm)).cell' (tal_at u (by omega))
   have x1:wr.cell? ⟨ab,off+i,none⟩=some (.int .i64 (t (off+i))):=by
    have:=HAr.out.cell' (tal_at _ (k:=off+i) (by omega))
    rwa [addT_at] at this
   have xz:=HAr.out.frozen (off+i)
   have xl:=HAr.out.lt
   have xl2:=(HC.out.blk HB.out (fun e=>HX.out.1 e.symm)).lt
   have hS:=HAr.out.set (off+i) (.int .i64 (t (off+i)+u (off+i)))
   rw [tal_put _ (by omega)] at hS
   have e2:=addT_next t u off i
   rw [addT_at] at e2
   rw [e2] at hS
   have HS:=Lib.hid hS
   have HC2:=Lib.hid (HC.out.setCell (a:=⟨ab,off+i,none⟩) (.inl rfl) (.int .i64 (t (off+i)+u (off+i))))
   have e1:IntKind.i64.wrap (t (off+i)+u (off+i))=t (off+i)+u (off+i):=IntWalk.i64_in _ (by have:=HX.out.2.2.1 (off+i);have:=HX.out.2.2.2 (off+i);omega)
   clear hS e2;generalize t (off+i)=ta at *;generalize u (off+i)=ua at *;go_wp2_with fail;go_roundg (n - (i+1))
   case rel=>exact ⟨i+1,by have:=HK.out;omega,by go_num,HS.out,HC2.out⟩
   case measure=>have:=HK.out;omega
  ·have t1:decide ((i:Int)<n)=false:=decide_eq_false (by omega)
   have t2:decide (i<n)=false:=decide_eq_false hi
   obtain rfl:i=n:=by have:=HK.out;omega
   go_wp2_with fail;refine bodyPost_end (results_none rfl _ _ _) rfl ?_
   exact ⟨rfl,HAr.out,HC.out⟩
def sumT (t u:Nat→Int) (k:Nat):Int:=t k+u k
theorem sum_any {w:World} {t u:Nat→Int} (ht:∀k,-1099511627776≤t k∧t k≤1099511627776) (hu:∀k,-1099511627776≤u k∧u k≤1099511627776):Calls Tryz.prog 10 #[.agg (tallyC t),.agg (tallyC u)] w (RetW (.agg (tallyC (sumT t u))) fun w'=>Chg NoB w w'):=by
 have hA:=(Blk.new w (tallyC t) 26).alloc (.cells (tallyC u) 26) |>.alloc (.cells #[.int .i64 0,.int .i64 0,.int .i64 0,.int .i64 0,.int .i64 0,.int .i64 0,.int .i64 0,.int .i64 0,.int .i64 0,.int .i64 0,.int .i64 0,.int .i64 0,.int .i64 0,.int .i64 0,.int .i64 0,.int .i64 0,.int .i64 0,.int .i64 0,.int .i64 0,.int .i64 0,.int .i64 0,.int .i64 0,.int .i64 0,.int .i64 0] 26)
 have hB:=(Blk.new (w.alloc (.cells (tallyC t) 26)) (tallyC u) 26).alloc (.cells #[.int .i64 0,.int .i64 0,.int .i64 0,.int .i64 0,.int .i64 0,.int .i64 0,.int .i64 0,.int .i64 0,.int .i64 0,.int .i64 0,.int .i64 0,.int .i64 0,.int .i64 0,.int .i64 0,.int .i64 0,.int .i64 0,.int .i64 0,.int .i64 0,.int .i64 0,.int .i64 0,.int .i64 0,.int .i64 0,.int .i64 0,.int .i64 0] 26)
 have hR:=Blk.new ((w.alloc (.cells (tallyC t) 26)).alloc (.cells (tallyC u) 26)) #[.int .i64 0,.int .i64 0,.int .i64 0,.int .i64 0,.int .i64 0,.int .i64 0,.int .i64 0,.int .i64 0,.int .i64 0,.int .i64 0,.int .i64 0,.int .i64 0,.int .i64 0,.int .i64 0,.int .i64 0,.int .i64 0,.int .i64 0,.int .i64 0,.int .i64 0,.int .i64 0,.int .i64 0,.int .i64 0,.int .i64 0,.int .i64 0] 26
 have c0:=(((Chg.refl NoB w).alloc (.cells (tallyC t) 26)).alloc (.cells (tallyC u) 26)).alloc (.cells #[.int .i64 0,.int .i64 0,.int .i64 0,.int .i64 0,.int .i64 0,.int .i64 0,.int .i64 0,.int .i64 0,.int .i64 0,.int .i64 0,.int .i64 0,.int .i64 0,.int .i64 0,.int .i64 0,.int .i64 0,.int .i64 0,.int .i64 0,.int .i64 0,.int .i64 0,.int .i64 0,.int .i64 0,.int .i64 0,.int .i64 0,.int .i64 0] 26)
 simp only [World.size_alloc] at hB hR
 have HT0:=Lib.hid (rfl:tallyC t=tallyC t)
 unfold tallyC
 replace hA:Blk (((w.alloc (.cells #[.int .i64 (t 0),.int .i64 (t 1),.int .i64 (t 2),.int .i64 (t 3),.int .i64 (t 4),.int .i64 (t 5),.int .i64 (t 6),.int .i64 (t 7),.int .i64 (t 8),.int .i64 (t 9),.int .i64 (t 10),.int .i64 (t 11),.int .i64 (t 12),.int .i64 (t 13),.int .i64 (t 14),.int .i64 (t 15),.int .i64 (t 16),.int .i64 (t 17),.int .i64 (t 18),.int .i64 (t 19),.int .i64 (t 20),.int .i64 (t 21),.int .i64 (t 22),.int .i64 (t 23)] 26)).alloc (.cells #[.int .i64 (u 0),.int .i64 (u 1),.int .i64 (u 2),.int .i64 (u 3),.int .i64 (u 4),.int .i64 (u 5),.int .i64 (u 6),.int .i64 (u 7),.int .i64 (u 8),.int .i64 (u 9),.int .i64 (u 10),.int .i64 (u 11),.int .i64 (u 12),.int .i64 (u 13),.int .i64 (u 14),.int .i64 (u 15),.int .i64 (u 16),.int .i64 (u 17),.int .i64 (u 18),.int .i64 (u 19),.int .i64 (u 20),.int .i64 (u 21),.int .i64 (u 22),.int .i64 (u 23)] 26)).alloc (.cells #[.int .i64 0,.int .i64 0,.int .i64 0,.int .i64 0,.int .i64 0,.int .i64 0,.int .i64 0,.int .i64 0,.int .i64 0,.int .i64 0,.int .i64 0,.int .i64 0,.int .i64 0,.int .i64 0,.int .i64 0,.int .i64 0,.int .i64 0,.int .i64 0,.int .i64 0,.int .i64 0,.int .i64 0,.int .i64 0,.int .i64 0,.int .i64 0] 26)) w.heap.size (tallyC t) 26:=hA
 replace hB:Blk (((w.alloc (.cells #[.int .i64 (t 0),.int .i64 (t 1),.int .i64 (t 2),.int .i64 (t 3),.int .i64 (t 4),.int .i64 (t 5),.int .i64 (t 6),.int .i64 (t 7),.int .i64 (t 8),.int .i64 (t 9),.int .i64 (t 10),.int .i64 (t 11),.int .i64 (t 12),.int .i64 (t 13),.int .i64 (t 14),.int .i64 (t 15),.int .i64 (t 16),.int .i64 (t 17),.int .i64 (t 18),.int .i64 (t 19),.int .i64 (t 20),.int .i64 (t 21),.int .i64 (t 22),.int .i64 (t 23)] 26)).alloc (.cells #[.int .i64 (u 0),.int .i64 (u 1),.int .i64 (u 2),.int .i64 (u 3),.int .i64 (u 4),.int .i64 (u 5),.int .i64 (u 6),.int .i64 (u 7),.int .i64 (u 8),.int .i64 (u 9),.int .i64 (u 10),.int .i64 (u 11),.int .i64 (u 12),.int .i64 (u 13),.int .i64 (u 14),.int .i64 (u 15),.int .i64 (u 16),.int .i64 (u 17),.int .i64 (u 18),.int .i64 (u 19),.int .i64 (u 20),.int .i64 (u 21),.int .i64 (u 22),.int .i64 (u 23)] 26)).alloc (.cells #[.int .i64 0,.int .i64 0,.int .i64 0,.int .i64 0,.int .i64 0,.int .i64 0,.int .i64 0,.int .i64 0,.int .i64 0,.int .i64 0,.int .i64 0,.int .i64 0,.int .i64 0,.int .i64 0,.int .i64 0,.int .i64 0,.int .i64 0,.int .i64 0,.int .i64 0,.int .i64 0,.int .i64 0,.int .i64 0,.int .i64 0,.int .i64 0] 26)) (w.heap.size+1) (tallyC u) 26:=hB
 replace hR:Blk (((w.alloc (.cells #[.int .i64 (t 0),.int .i64 (t 1),.int .i64 (t 2),.int .i64 (t 3),.int .i64 (t 4),.int .i64 (t 5),.int .i64 (t 6),.int .i64 (t 7),.int .i64 (t 8),.int .i64 (t 9),.int .i64 (t 10),.int .i64 (t 11),.int .i64 (t 12),.int .i64 (t 13),.int .i64 (t 14),.int .i64 (t 15),.int .i64 (t 16),.int .i64 (t 17),.int .i64 (t 18),.int .i64 (t 19),.int .i64 (t 20),.int .i64 (t 21),.int .i64 (t 22),.int .i64 (t 23)] 26)).alloc (.cells #[.int .i64 (u 0),.int .i64 (u 1),.int .i64 (u 2),.int .i64 (u 3),.int .i64 (u 4),.int .i64 (u 5),.int .i64 (u 6),.int .i64 (u 7),.int .i64 (u 8),.int .i64 (u 9),.int .i64 (u 10),.int .i64 (u 11),.int .i64 (u 12),.int .i64 (u 13),.int .i64 (u 14),.int .i64 (u 15),.int .i64 (u 16),.int .i64 (u 17),.int .i64 (u 18),.int .i64 (u 19),.int .i64 (u 20),.int .i64 (u 21),.int .i64 (u 22),.int .i64 (u 23)] 26)).alloc (.cells #[.int .i64 0,.int .i64 0,.int .i64 0,.int .i64 0,.int .i64 0,.int .i64 0,.int .i64 0,.int .i64 0,.int .i64 0,.int .i64 0,.int .i64 0,.int .i64 0,.int .i64 0,.int .i64 0,.int .i64 0,.int .i64 0,.int .i64 0,.int .i64 0,.int .i64 0,.int .i64 0,.int .i64 0,.int .i64 0,.int .i64 0,.int .i64 0] 26)) (w.heap.size+1+1) #[.int .i64 0,.int .i64 0,.int .i64 0,.int .i64 0,.int .i64 0,.int .i64 0,.int .i64 0,.int .i64 0,.int .i64 0,.int .i64 0,.int .i64 0,.int .i64 0,.int .i64 0,.int .i64 0,.int .i64 0,.int .i64 0,.int .i64 0,.int .i64 0,.int .i64 0,.int .i64 0,.int .i64 0,.int .i64 0,.int .i64 0,.int .i64 0] 26:=hR
 replace c0:Chg NoB w (((w.alloc (.cells #[.int .i64 (t 0),.int .i64 (t 1),.int .i64 (t 2),.int .i64 (t 3),.int .i64 (t 4),.int .i64 (t 5),.int .i64 (t 6),.int .i64 (t 7),.int .i64 (t 8),.int .i64 (t 9),.int .i64 (t 10),.int .i64 (t 11),.int .i64 (t 12),.int .i64 (t 13),.int .i64 (t 14),.int .i64 (t 15),.int .i64 (t 16),.int .i64 (t 17),.int .i64 (t 18),.int .i64 (t 19),.int .i64 (t 20),.int .i64 (t 21),.int .i64 (t 22),.int .i64 (t 23)] 26)).alloc (.cells #[.int .i64 (u 0),.int .i64 (u 1),.int .i64 (u 2),.int .i64 (u 3),.int .i64 (u 4),.int .i64 (u 5),.int .i64 (u 6),.int .i64 (u 7),.int .i64 (u 8),.int .i64 (u 9),.int .i64 (u 10),.int .i64 (u 11),.int .i64 (u 12),.int .i64 (u 13),.int .i64 (u 14),.int .i64 (u 15),.int .i64 (u 16),.int .i64 (u 17),.int .i64 (u 18),.int .i64 (u 19),.int .i64 (u 20),.int .i64 (u 21),.int .i64 (u 22),.int .i64 (u 23)] 26)).alloc (.cells #[.int .i64 0,.int .i64 0,.int .i64 0,.int .i64 0,.int .i64 0,.int .i64 0,.int .i64 0,.int .i64 0,.int .i64 0,.int .i64 0,.int .i64 0,.int .i64 0,.int .i64 0,.int .i64 0,.int .i64 0,.int .i64 0,.int .i64 0,.int .i64 0,.int .i64 0,.int .i64 0,.int .i64 0,.int .i64 0,.int .i64 0,.int .i64 0] 26)):=c0
 generalize hw0:((w.alloc (.cells #[.int .i64 (t 0),.int .i64 (t 1),.int .i64 (t 2),.int .i64 (t 3),.int .i64 (t 4),.int .i64 (t 5),.int .i64 (t 6),.int .i64 (t 7),.int .i64 (t 8),.int .i64 (t 9),.int .i64 (t 10),.int .i64 (t 11),.int .i64 (t 12),.int .i64 (t 13),.int .i64 (t 14),.int .i64 (t 15),.int .i64 (t 16),.int .i64 (t 17),.int .i64 (t 18),.int .i64 (t 19),.int .i64 (t 20),.int .i64 (t 21),.int .i64 (t 22),.int .i64 (t 23)] 26)).alloc (.cells #[.int .i64 (u 0),.int .i64 (u 1),.int .i64 (u 2),.int .i64 (u 3),.int .i64 (u 4),.int .i64 (u 5),.int .i64 (u 6),.int .i64 (u 7),.int .i64 (u 8),.int .i64 (u 9),.int .i64 (u 10),.int .i64 (u 11),.int .i64 (u 12),.int .i64 (u 13),.int .i64 (u 14),.int .i64 (u 15),.int .i64 (u 16),.int .i64 (u 17),.int .i64 (u 18),.int .i64 (u 19),.int .i64 (u 20),.int .i64 (u 21),.int .i64 (u 22),.int .i64 (u 23)] 26)).alloc (.cells #[.int .i64 0,.int .i64 0,.int .i64 0,.int .i64 0,.int .i64 0,.int .i64 0,.int .i64 0,.int .i64 0,.int .i64 0,.int .i64 0,.int .i64 0,.int .i64 0,.int .i64 0,.int .i64 0,.int .i64 0,.int .i64 0,.int .i64 0,.int .i64 0,.int .i64 0,.int .i64 0,.int .i64 0,.int .i64 0,.int .i64 0,.int .i64 0] 26)=w0 at *;have HA:=Lib.hid hA
 have HB:=Lib.hid hB
 have HR:=Lib.hid hR
 have HC:Hid (Chg (fun k=>w.heap.size≤k) w w0):=Lib.hid (c0.mono fun _ _ e=>e.elim)
 have HX:=Lib.hid (And.intro ht hu)
 clear hA hB hR c0 HT0 ht hu;go_enter Tryz.func10,Tryz.ntmps10;have cc:=Chg.refl NoB w0
 go_upto_region 1 with fail;try clear hw0
 have cd:Chg NoB w0 w0.drew:=cc.drew
 refine wp_region_mix 4 [(true,0),(true,1),(true,2),(true,3)] (fun w'=>Chg NoB w0 w') (by kernel_rfl) (by kernel_rfl) (fun _ _ _ _ _ h=>h) (cc.drew) ?_
 simp only [pickMix_nil,pickMix_cons,Option.getD_some,List.getElem?_toArray,List.getElem?_cons_zero,List.getElem?_cons_succ,List.cons_append,List.nil_append,List.drop_succ_cons,List.drop_zero]
 iterate 4
  refine wpMix_take rfl ?_;apply Exists.intro;refine ⟨fun wS hS=>?_,?_⟩
  ·try dsimp only at hS
   have cS:=hS
   go_simp;try rfl
  simp only [Act.put,List.setIfInBounds_toArray,List.set_cons_zero,List.set_cons_succ]
 refine wpMix_nil ?_
 have HD:=Lib.hid (added_any (t:=t) (u:=u) (off:=0) (n:=5) (cd.blk0 HA.out) (cd.blk0 HB.out) (by omega) (by decide) (fun k=>by have:=HX.out.1 k;omega) (fun k=>by have:=HX.out.2 k;omega))
 replace HB:=Lib.hid (cd.blk0 HB.out)
 replace HR:=Lib.hid (cd.blk0 HR.out)
 replace HC:=Lib.hid (HC.out.trans (cd.mono fun _ _ e=>e.elim) fun _ _ e=>e)
 clear cc cd HA;generalize w0.drew=wd0 at *;go_wp2_with fail;with_reducible refine HD.out.mono ?_
 rintro e v1 ⟨rfl,hA,hC⟩;have HA:=Lib.hid hA
 replace HB:=Lib.hid (hC.blk HB.out (fun e=>absurd e (by omega)))
 replace HR:=Lib.hid (hC.blk HR.out (fun e=>absurd e (by omega)))
 replace HC:=Lib.hid (HC.out.trans (hC.mono (S':=fun k=>w.heap.size≤k) fun k _ e=>Nat.le_of_eq (Eq.symm e)) fun _ _ e=>e)
 clear hA hC HD;have cc:=Chg.refl NoB v1
 go_upto_region 2 with fail;try clear hw0
 have cd:Chg NoB v1 v1.drew:=cc.drew
 refine wp_region_mix 4 [(true,0),(true,1),(true,2),(true,3)] (fun w'=>Chg NoB v1 w') (by kernel_rfl) (by kernel_rfl) (fun _ _ _ _ _ h=>h) (cc.drew) ?_
 simp only [pickMix_nil,pickMix_cons,Option.getD_some,List.getElem?_toArray,List.getElem?_cons_zero,List.getElem?_cons_succ,List.cons_append,List.nil_append,List.drop_succ_cons,List.drop_zero]
 iterate 4
  refine wpMix_take rfl ?_;apply Exists.intro;refine ⟨fun wS hS=>?_,?_⟩
  ·try dsimp only at hS
   have cS:=hS
   go_simp;try rfl
  simp only [Act.put,List.setIfInBounds_toArray,List.set_cons_zero,List.set_cons_succ]
 refine wpMix_nil ?_
 have HD:=Lib.hid (added_any (t:=(addT t u 0 5)) (u:=u) (off:=5) (n:=7) (cd.blk0 HA.out) (cd.blk0 HB.out) (by omega) (by decide) (fun k=>by have:=HX.out.1 k;have:=HX.out.2 k;unfold addT;repeat' split;all_goals omega) (fun k=>by have:=HX.out.2 k;omega))
 replace HB:=Lib.hid (cd.blk0 HB.out)
 replace HR:=Lib.hid (cd.blk0 HR.out)
 replace HC:=Lib.hid (HC.out.trans (cd.mono fun _ _ e=>e.elim) fun _ _ e=>e)
 clear cc cd HA;generalize v1.drew=wd1 at *;go_wp2_with fail;with_reducible refine HD.out.mono ?_
 rintro e v2 ⟨rfl,hA,hC⟩;have HA:=Lib.hid hA
 replace HB:=Lib.hid (hC.blk HB.out (fun e=>absurd e (by omega)))
 replace HR:=Lib.hid (hC.blk HR.out (fun e=>absurd e (by omega)))
 replace HC:=Lib.hid (HC.out.trans (hC.mono (S':=fun k=>w.heap.size≤k) fun k _ e=>Nat.le_of_eq (Eq.symm e)) fun _ _ e=>e)
 clear hA hC HD;have cc:=Chg.refl NoB v2
 go_upto_region 3 with fail;try clear hw0
 have cd:Chg NoB v2 v2.drew:=cc.drew
 refine wp_region_mix 4 [(true,0),(true,1),(true,2),(true,3)] (fun w'=>Chg NoB v2 w') (by kernel_rfl) (by kernel_rfl) (fun _ _ _ _ _ h=>h) (cc.drew) ?_
 simp only [pickMix_nil,pickMix_cons,Option.getD_some,List.getElem?_toArray,List.getElem?_cons_zero,List.getElem?_cons_succ,List.cons_append,List.nil_append,List.drop_succ_cons,List.drop_zero]
 iterate 4
  refine wpMix_take rfl ?_;apply Exists.intro;refine ⟨fun wS hS=>?_,?_⟩
  ·try dsimp only at hS
   have cS:=hS
   go_simp;try rfl
  simp only [Act.put,List.setIfInBounds_toArray,List.set_cons_zero,List.set_cons_succ]
 refine wpMix_nil ?_
 have HD:=Lib.hid (added_any (t:=(addT (addT t u 0 5) u 5 7)) (u:=u) (off:=13) (n:=3) (cd.blk0 HA.out) (cd.blk0 HB.out) (by omega) (by decide) (fun k=>by have:=HX.out.1 k;have:=HX.out.2 k;unfold addT;repeat' split;all_goals omega) (fun k=>by have:=HX.out.2 k;omega))
 replace HB:=Lib.hid (cd.blk0 HB.out)
 replace HR:=Lib.hid (cd.blk0 HR.out)
 replace HC:=Lib.hid (HC.out.trans (cd.mono fun _ _ e=>e.elim) fun _ _ e=>e)
 clear cc cd HA;generalize v2.drew=wd2 at *;go_wp2_with fail;with_reducible refine HD.out.mono ?_
 rintro e v3 ⟨rfl,hA,hC⟩;have HA:=Lib.hid hA
 replace HB:=Lib.hid (hC.blk HB.out (fun e=>absurd e (by omega)))
 replace HR:=Lib.hid (hC.blk HR.out (fun e=>absurd e (by omega)))
 replace HC:=Lib.hid (HC.out.trans (hC.mono (S':=fun k=>w.heap.size≤k) fun k _ e=>Nat.le_of_eq (Eq.symm e)) fun _ _ e=>e)
 clear hA hC HD;have cc:=Chg.refl NoB v3
 go_upto_region 4 with fail;try clear hw0
 have cd:Chg NoB v3 v3.drew:=cc.drew
 refine wp_region_mix 4 [(true,0),(true,1),(true,2),(true,3)] (fun w'=>Chg NoB v3 w') (by kernel_rfl) (by kernel_rfl) (fun _ _ _ _ _ h=>h) (cc.drew) ?_
 simp only [pickMix_nil,pickMix_cons,Option.getD_some,List.getElem?_toArray,List.getElem?_cons_zero,List.getElem?_cons_succ,List.cons_append,List.nil_append,List.drop_succ_cons,List.drop_zero]
 iterate 4
  refine wpMix_take rfl ?_;apply Exists.intro;refine ⟨fun wS hS=>?_,?_⟩
  ·try dsimp only at hS
   have cS:=hS
   go_simp;try rfl
  simp only [Act.put,List.setIfInBounds_toArray,List.set_cons_zero,List.set_cons_succ]
 refine wpMix_nil ?_
 have HD:=Lib.hid (added_any (t:=(addT (addT (addT t u 0 5) u 5 7) u 13 3)) (u:=u) (off:=16) (n:=7) (cd.blk0 HA.out) (cd.blk0 HB.out) (by omega) (by decide) (fun k=>by have:=HX.out.1 k;have:=HX.out.2 k;unfold addT;repeat' split;all_goals omega) (fun k=>by have:=HX.out.2 k;omega))
 replace HB:=Lib.hid (cd.blk0 HB.out)
 replace HR:=Lib.hid (cd.blk0 HR.out)
 replace HC:=Lib.hid (HC.out.trans (cd.mono fun _ _ e=>e.elim) fun _ _ e=>e)
 clear cc cd HA;generalize v3.drew=wd3 at *;go_wp2_with fail;with_reducible refine HD.out.mono ?_
 rintro e v4 ⟨rfl,hA,hC⟩;have HA:=Lib.hid hA
 replace HB:=Lib.hid (hC.blk HB.out (fun e=>absurd e (by omega)))
 replace HR:=Lib.hid (hC.blk HR.out (fun e=>absurd e (by omega)))
 replace HC:=Lib.hid (HC.out.trans (hC.mono (S':=fun k=>w.heap.size≤k) fun k _ e=>Nat.le_of_eq (Eq.symm e)) fun _ _ e=>e)
 clear hA hC HD;obtain ⟨T4,hT4⟩:∃x,(addT (addT (addT (addT t u 0 5) u 5 7) u 13 3) u 16 7)=x:=⟨_,rfl⟩
 have q12:T4 12=t 12:=by rw [←hT4];rfl
 have q23:T4 23=t 23:=by rw [←hT4];rfl
 have HFin:Hid (tallyC (updN (updN T4 12 (t 12+u 12)) 23 (t 23+u 23))=tallyC (sumT t u)):=Lib.hid (by rw [←hT4];rfl)
 rw [hT4] at HA
 clear hT4;have a0:v4.cell? ⟨w.heap.size,12,none⟩=some (.int .i64 (t 12)):=by rw [←q12];exact HA.out.cell' (tal_at T4 (by decide))
 have a1:v4.cell? ⟨w.heap.size,23,none⟩=some (.int .i64 (t 23)):=by rw [←q23];exact HA.out.cell' (tal_at T4 (by decide))
 have b0:v4.cell? ⟨w.heap.size+1,12,none⟩=some (.int .i64 (u 12)):=HB.out.cell' (tal_at u (by decide))
 have b1:v4.cell? ⟨w.heap.size+1,23,none⟩=some (.int .i64 (u 23)):=HB.out.cell' (tal_at u (by decide))
 have az:=HA.out.frozen
 have al:=HA.out.lt
 have bl:=HB.out.lt
 have e1:IntKind.i64.wrap (t 12+u 12)=t 12+u 12:=IntWalk.i64_in _ (by have:=HX.out.1 12;have:=HX.out.2 12;omega)
 have e2:IntKind.i64.wrap (t 23+u 23)=t 23+u 23:=IntWalk.i64_in _ (by have:=HX.out.1 23;have:=HX.out.2 23;omega)
 have C5:Chg (fun k=>k=w.heap.size) v4 (v4.setCell ⟨w.heap.size,12,none⟩ (.int .i64 (t 12+u 12))):=(Chg.refl (fun k=>k=w.heap.size) v4).setCell (a:=⟨w.heap.size,12,none⟩) (.inl rfl) _
 have hA5:=HA.out.set 12 (.int .i64 (t 12+u 12))
 rw [tal_put _ (by decide)] at hA5
 replace HC:=Lib.hid (HC.out.trans (C5.mono (S':=fun k=>w.heap.size≤k) fun k _ e=>Nat.le_of_eq (Eq.symm e)) fun _ _ e=>e)
 replace HR:=Lib.hid (C5.blk HR.out (fun e=>absurd e (by omega)))
 replace HB:=Lib.hid (C5.blk HB.out (fun e=>absurd e (by omega)))
 obtain ⟨w5,hw5⟩:∃x,v4.setCell ⟨w.heap.size,12,none⟩ (.int .i64 (t 12+u 12))=x:=⟨_,rfl⟩
 rw [hw5] at hA5 HC HR HB
 have a2:w5.cell? ⟨w.heap.size,23,none⟩=some (.int .i64 (t 23)):=by rw [←q23];exact hA5.cell' (tal_at _ (k:=23) (by decide))
 have b2:w5.cell? ⟨w.heap.size+1,23,none⟩=some (.int .i64 (u 23)):=HB.out.cell' (tal_at u (by decide))
 have az5:=hA5.frozen
 have al5:=hA5.lt
 have bl5:=HB.out.lt
 have C6:Chg (fun k=>k=w.heap.size) w5 (w5.setCell ⟨w.heap.size,23,none⟩ (.int .i64 (t 23+u 23))):=(Chg.refl (fun k=>k=w.heap.size) w5).setCell (a:=⟨w.heap.size,23,none⟩) (.inl rfl) _
 have hA6:=hA5.set 23 (.int .i64 (t 23+u 23))
 rw [tal_put _ (by decide),HFin.out] at hA6
 replace HC:=Lib.hid (HC.out.trans (C6.mono (S':=fun k=>w.heap.size≤k) fun k _ e=>Nat.le_of_eq (Eq.symm e)) fun _ _ e=>e)
 replace HR:=Lib.hid (C6.blk HR.out (fun e=>absurd e (by omega)))
 obtain ⟨w6,hw6⟩:∃x,w5.setCell ⟨w.heap.size,23,none⟩ (.int .i64 (t 23+u 23))=x:=⟨_,rfl⟩
 rw [hw6] at hA6 HC HR
 have hr:w6.rangeAt w.heap.size 0 [.int .i64 (t 0+u 0),.int .i64 (t 1+u 1),.int .i64 (t 2+u 2),.int .i64 (t 3+u 3),.int .i64 (t 4+u 4),.int .i64 (t 5+u 5),.int .i64 (t 6+u 6),.int .i64 (t 7+u 7),.int .i64 (t 8+u 8),.int .i64 (t 9+u 9),.int .i64 (t 10+u 10),.int .i64 (t 11+u 11),.int .i64 (t 12+u 12),.int .i64 (t 13+u 13),.int .i64 (t 14+u 14),.int .i64 (t 15+u 15),.int .i64 (t 16+u 16),.int .i64 (t 17+u 17),.int .i64 (t 18+u 18),.int .i64 (t 19+u 19),.int .i64 (t 20+u 20),.int .i64 (t 21+u 21),.int .i64 (t 22+u 22),.int .i64 (t 23+u 23)]:=fun j v hj=>by rw [Nat.zero_add];exact hA6.cell' ((List.getElem?_toArray ..).trans hj)
 have ht:w6.there (w.heap.size+1+1) 0 24:=blk_there HR.out rfl
 have HS:=store_all HR.out [.int .i64 (t 0+u 0),.int .i64 (t 1+u 1),.int .i64 (t 2+u 2),.int .i64 (t 3+u 3),.int .i64 (t 4+u 4),.int .i64 (t 5+u 5),.int .i64 (t 6+u 6),.int .i64 (t 7+u 7),.int .i64 (t 8+u 8),.int .i64 (t 9+u 9),.int .i64 (t 10+u 10),.int .i64 (t 11+u 11),.int .i64 (t 12+u 12),.int .i64 (t 13+u 13),.int .i64 (t 14+u 14),.int .i64 (t 15+u 15),.int .i64 (t 16+u 16),.int .i64 (t 17+u 17),.int .i64 (t 18+u 18),.int .i64 (t 19+u 19),.int .i64 (t 20+u 20),.int .i64 (t 21+u 21),.int .i64 (t 22+u 22),.int .i64 (t 23+u 23)] rfl
 have HF:Hid (Chg NoB w (w6.setCells (w.heap.size+1+1) 0 [.int .i64 (t 0+u 0),.int .i64 (t 1+u 1),.int .i64 (t 2+u 2),.int .i64 (t 3+u 3),.int .i64 (t 4+u 4),.int .i64 (t 5+u 5),.int .i64 (t 6+u 6),.int .i64 (t 7+u 7),.int .i64 (t 8+u 8),.int .i64 (t 9+u 9),.int .i64 (t 10+u 10),.int .i64 (t 11+u 11),.int .i64 (t 12+u 12),.int .i64 (t 13+u 13),.int .i64 (t 14+u 14),.int .i64 (t 15+u 15),.int .i64 (t 16+u 16),.int .i64 (t 17+u 17),.int .i64 (t 18+u 18),.int .i64 (t 19+u 19),.int .i64 (t 20+u 20),.int .i64 (t 21+u 21),.int .i64 (t 22+u 22),.int .i64 (t 23+u 23)])):=Lib.hid ((HC.out.trans (HS.2.mono (S':=fun k=>w.heap.size≤k) fun k _ e=>by have:k=w.heap.size+1+1:=e;omega) fun _ _ e=>e).mono fun k hk e=>absurd e (Nat.not_le_of_lt hk))
 have HQx:=Lib.hid HS.1.cell
 clear HS hA6 hA5 C5 C6 HC HR HB HA HX HFin q12 q23;go_wp2_with (first | (refine wpList_load_mid rfl _ _ rfl w.heap.size 0 rfl [.int .i64 (t 0+u 0),.int .i64 (t 1+u 1),.int .i64 (t 2+u 2),.int .i64 (t 3+u 3),.int .i64 (t 4+u 4),.int .i64 (t 5+u 5),.int .i64 (t 6+u 6),.int .i64 (t 7+u 7),.int .i64 (t 8+u 8),.int .i64 (t 9+u 9),.int .i64 (t 10+u 10),.int .i64 (t 11+u 11),.int .i64 (t 12+u 12),.int .i64 (t 13+u 13),.int .i64 (t 14+u 14),.int .i64 (t 15+u 15),.int .i64 (t 16+u 16),.int .i64 (t 17+u 17),.int .i64 (t 18+u 18),.int .i64 (t 19+u 19),.int .i64 (t 20+u 20),.int .i64 (t 21+u 21),.int .i64 (t 22+u 22),.int .i64 (t 23+u 23)] _ hr Tryz.underlying26 rfl tally_info ?_) | (refine wpList_store_mid rfl _ _ _ rfl (w.heap.size+1+1) 0 #[.int .i64 (t 0+u 0),.int .i64 (t 1+u 1),.int .i64 (t 2+u 2),.int .i64 (t 3+u 3),.int .i64 (t 4+u 4),.int .i64 (t 5+u 5),.int .i64 (t 6+u 6),.int .i64 (t 7+u 7),.int .i64 (t 8+u 8),.int .i64 (t 9+u 9),.int .i64 (t 10+u 10),.int .i64 (t 11+u 11),.int .i64 (t 12+u 12),.int .i64 (t 13+u 13),.int .i64 (t 14+u 14),.int .i64 (t 15+u 15),.int .i64 (t 16+u 16),.int .i64 (t 17+u 17),.int .i64 (t 18+u 18),.int .i64 (t 19+u 19),.int .i64 (t 20+u 20),.int .i64 (t 21+u 21),.int .i64 (t 22+u 22),.int .i64 (t 23+u 23)] rfl rfl ht tally_info (by simp [Value.oneCell']) ?_))
 exact bodyPost_ret (v:=.agg #[.int .i64 (t 0+u 0),.int .i64 (t 1+u 1),.int .i64 (t 2+u 2),.int .i64 (t 3+u 3),.int .i64 (t 4+u 4),.int .i64 (t 5+u 5),.int .i64 (t 6+u 6),.int .i64 (t 7+u 7),.int .i64 (t 8+u 8),.int .i64 (t 9+u 9),.int .i64 (t 10+u 10),.int .i64 (t 11+u 11),.int .i64 (t 12+u 12),.int .i64 (t 13+u 13),.int .i64 (t 14+u 14),.int .i64 (t 15+u 15),.int .i64 (t 16+u 16),.int .i64 (t 17+u 17),.int .i64 (t 18+u 18),.int .i64 (t 19+u 19),.int .i64 (t 20+u 20),.int .i64 (t 21+u 21),.int .i64 (t 22+u 22),.int .i64 (t 23+u 23)]) (results_one (cs:=[.int .i64 (t 0+u 0),.int .i64 (t 1+u 1),.int .i64 (t 2+u 2),.int .i64 (t 3+u 3),.int .i64 (t 4+u 4),.int .i64 (t 5+u 5),.int .i64 (t 6+u 6),.int .i64 (t 7+u 7),.int .i64 (t 8+u 8),.int .i64 (t 9+u 9),.int .i64 (t 10+u 10),.int .i64 (t 11+u 11),.int .i64 (t 12+u 12),.int .i64 (t 13+u 13),.int .i64 (t 14+u 14),.int .i64 (t 15+u 15),.int .i64 (t 16+u 16),.int .i64 (t 17+u 17),.int .i64 (t 18+u 18),.int .i64 (t 19+u 19),.int .i64 (t 20+u 20),.int .i64 (t 21+u 21),.int .i64 (t 22+u 22),.int .i64 (t 23+u 23)]) rfl rfl (fun j v hj=>by rw [Nat.zero_add];exact (HQx.out j).trans ((List.getElem?_toArray ..).trans hj)) Tryz.underlying26 rfl tally_info) rfl ⟨rfl,HF.out⟩
end Go.Proofs.YtjhnnjgnkkjmkaaGreatDoor
