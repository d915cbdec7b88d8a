/- Walks through the tables: one entry. No condition. Frames of a memory: which ones are taken. No condition. Tables of a space: frames taken for them, entries' places, what leads on. No condition. -/
import Derived.Test.YtjhnnjgnkkjmkaaGreatDoorGh
import Derived.Test.YtjhnnjgnkkjmkaaGreatDoorGg
set_option maxHeartbeats 4000000
set_option maxRecDepth 100000
set_option linter.unusedVariables false
set_option linter.unusedSimpArgs false
namespace Go.Proofs.YtjhnnjgnkkjmkaaGreatDoor
open Go.RowKit Go.RR
theorem even_any (ppn:Nat) (l:Int) (w:World) (hp:ppn<17592186044416) (hl:levelB l=true):Calls Tryz.prog 309 #[.int .u64 ppn,.int .i64 l] w (RetW (.bool (evenB ppn l.toNat)) fun w'=>w'=w):=by
 rcases level_cases l with rfl | rfl | rfl | h
 ·have m1:bits .and .u64 (ppn:Int) 0=0:=by have:=and_mask ppn 0 (by omega) (by omega);simpa [Nat.mod_one] using this
  have HB:Hid (evenB ppn (0:Int).toNat=true):=Lib.hid (decide_eq_true (Nat.mod_one _))
  go_enter Tryz.func309,Tryz.ntmps309;go_wp2_with fail;go_ret;exact ⟨ret_bool HB.out.symm,rfl⟩
 ·have m1:bits .and .u64 (ppn:Int) 511=(ppn:Int)%512:=by have:=and_lo 9 (by omega) (ppn:Int) (by omega) (by omega);simpa using this
  obtain ⟨b,hb⟩:∃b,evenB ppn (1:Int).toNat=b:=⟨_,rfl⟩
  have t1:((ppn:Int)%512 == 0)=b:=by
   rw [←hb]
   unfold evenB
   rw [Bool.eq_iff_iff,beq_iff_eq,decide_eq_true_iff]
   show _↔ppn%512=0
   omega
  have HB:=Lib.hid hb
  clear hb;go_enter Tryz.func309,Tryz.ntmps309;go_wp2_with fail;go_ret;exact ⟨ret_bool HB.out.symm,rfl⟩
 ·have m1:bits .and .u64 (ppn:Int) 262143=(ppn:Int)%262144:=by have:=and_lo 18 (by omega) (ppn:Int) (by omega) (by omega);simpa using this
  obtain ⟨b,hb⟩:∃b,evenB ppn (2:Int).toNat=b:=⟨_,rfl⟩
  have t1:((ppn:Int)%262144 == 0)=b:=by
   rw [←hb]
   unfold evenB
   rw [Bool.eq_iff_iff,beq_iff_eq,decide_eq_true_iff]
   show _↔ppn%262144=0
   omega
  have HB:=Lib.hid hb
  clear hb;go_enter Tryz.func309,Tryz.ntmps309;go_wp2_with fail;go_ret;exact ⟨ret_bool HB.out.symm,rfl⟩
 ·rw [hl] at h;cases h
theorem leads_any (p:Pte) (l:Int) (w:World) (hl:levelB l=true):Calls Tryz.prog 310 #[.agg #[.bool p.v,.bool p.r,.bool p.w,.bool p.x,.bool p.u,.bool p.g,.bool p.a,.bool p.d,.int .i64 p.rsw,.int .u64 p.ppn],.int .i64 l] w (RetW (.bool (leadsB p l.toNat)) fun w'=>Chg NoB w w'):=by
 obtain ⟨v,r,pw,x,u,g,a,d,rsw,ppn⟩:=p
 have HC:=Lib.hid ((Chg.refl NoB w).alloc (.cells #[.bool v,.bool r,.bool pw,.bool x,.bool u,.bool g,.bool a,.bool d,.int .i64 rsw,.int .u64 ppn] 233))
 rcases level_cases l with rfl | rfl | rfl | h
 ·go_enter Tryz.func310,Tryz.ntmps310;go_wp2_with fail;go_ret;exact ⟨rfl,HC.out⟩
 ·cases u
  all_goals
   cases a
   all_goals
    cases d
    all_goals
     go_enter Tryz.func310,Tryz.ntmps310;go_wp2_with fail;go_ret;exact ⟨rfl,HC.out⟩
 ·cases u
  all_goals
   cases a
   all_goals
    cases d
    all_goals
     go_enter Tryz.func310,Tryz.ntmps310;go_wp2_with fail;go_ret;exact ⟨rfl,HC.out⟩
 ·rw [hl] at h;cases h
def pteA (p:Pte):Value:=.agg #[.bool p.v,.bool p.r,.bool p.w,.bool p.x,.bool p.u,.bool p.g,.bool p.a,.bool p.d,.int .i64 p.rsw,.int .u64 p.ppn]
theorem entry_any {S:Nat→Prop} {w:World} {mb fr:Nat} {b:By} (h:MemAt w S mb b fr) (at':Nat) (ha:at'<18446744073709551616) (h8:at'%8=0) (hf:fr≤1048576) :
  Calls Tryz.prog 308 #[.pointer (some ⟨mb,0,none⟩),.int .u64 at'] w (RetW (.tuple #[.agg #[.bool (entryF b fr at').1.v,.bool (entryF b fr at').1.r,.bool (entryF b fr at').1.w,.bool (entryF b fr at').1.x,.bool (entryF b fr at').1.u,.bool (entryF b fr at').1.g,.bool (entryF b fr at').1.a,.bool (entryF b fr at').1.d,.int .i64 (entryF b fr at').1.rsw,.int .u64 (entryF b fr at').1.ppn],.int .i64 (entryF b fr at').2]) fun w'=>Chg NoB w w'):=by
 have hal:alignedB at' (8:Nat)=true:=by unfold alignedB;rw [show sizeB ((8:Nat):Int)=true from rfl];exact decide_eq_true h8
 by_cases hb:fr≤at' / 4096
 ·have hck:checkF fr at' (8:Nat)=61:=by
   unfold checkF
   rw [if_neg (by rw [show sizeB ((8:Nat):Int)=true from rfl];simp),if_neg (by rw [hal];simp),if_pos hb]
  have HE:Hid (entryF b fr at'=(Pte.zero,61)):=Lib.hid (if_pos hb)
  have H0:Hid (∀w',Chg NoB w w'→Calls Tryz.prog 127 #[.pointer (some ⟨mb,0,none⟩),.int .u64 at',.int .i64 8] w' (RetW (.tuple #[.int .u64 0,.int .i64 61]) fun w''=>w''=w')):=Lib.hid fun w' c=>by
   have:=Load_any (h.chg0 c) at' 8 ha hf
   rw [hck] at this
   exact this
  clear h hal hck hb;rw [HE.out]
  go_enter Tryz.func308,Tryz.ntmps308;go_wp2_with fail;with_reducible refine (H0.out _ ((Chg.refl NoB w).alloc _)).mono ?_
  rintro e w1 ⟨rfl,hw1⟩;subst hw1;go_wp2_with fail;exact bodyPost_ret (v:=.tuple #[pteA Pte.zero,.int .i64 61]) (by simp [results,Tryz.results308,go_sem,pteA,Pte.zero]) rfl ⟨rfl,(Chg.refl _ _).alloc _⟩
 ·have hck:checkF fr at' (8:Nat)=0:=check_ok hal (by omega)
  obtain ⟨V,hV⟩:∃V,getW b at' 8=V:=⟨_,rfl⟩
  have hV64:V<18446744073709551616:=by
   rw [←hV]
   obtain ⟨mp,m,_,_,_,_,_,h6⟩:=h
   exact getW_lt h6.ok 8 at'
  have HE:Hid (entryF b fr at'=if pteOkW V && rightP8 (pteG V) then (pteG V,0) else (Pte.zero,51)):=Lib.hid (by unfold entryF;rw [if_neg hb,hV])
  have H0:Hid (∀w',Chg NoB w w'→Calls Tryz.prog 127 #[.pointer (some ⟨mb,0,none⟩),.int .u64 at',.int .i64 8] w' (RetW (.tuple #[.int .u64 V,.int .i64 0]) fun w''=>w''=w')):=Lib.hid fun w' c=>by
   have:=Load_any (h.chg0 c) at' 8 ha hf
   rw [hck,if_pos rfl,hV] at this
   exact this
  obtain ⟨G,hG⟩:∃G,pteG V=G:=⟨_,rfl⟩
  obtain ⟨ok,hok⟩:∃ok,pteOkW V=ok:=⟨_,rfl⟩
  have H1:=Lib.hid fun w'=>pteGet_any V hV64 w'
  rw [hG,hok] at H1 HE
  have H2:=Lib.hid fun w'=>pteRight_any G w'
  obtain ⟨rt,hrt⟩:∃rt,rightP8 G=rt:=⟨_,rfl⟩
  rw [hrt] at H2 HE
  clear h hal hck hb hV hG hok hrt hV64;obtain ⟨gv,gr,gw,gx,gu,gg,ga,gd,grs,gp⟩:=G
  have HCZ:=Lib.hid ((Chg.refl NoB w).alloc (.cells #[.bool false,.bool false,.bool false,.bool false,.bool false,.bool false,.bool false,.bool false,.int .i64 0,.int .u64 0] 233))
  have HBZ:=Lib.hid (Blk.new w #[.bool false,.bool false,.bool false,.bool false,.bool false,.bool false,.bool false,.bool false,.int .i64 0,.int .u64 0] 233)
  go_enter Tryz.func308,Tryz.ntmps308;go_wp2_with fail;with_reducible refine (H0.out _ HCZ.out).mono ?_
  rintro e w1 ⟨rfl,hw1⟩;subst hw1;go_wp2_with fail;with_reducible refine (H1.out _).mono ?_
  rintro e w2 ⟨rfl,C2⟩;have HC2:=Lib.hid ((HCZ.out.step C2).alloc (.cells #[.bool gv,.bool gr,.bool gw,.bool gx,.bool gu,.bool gg,.bool ga,.bool gd,.int .i64 grs,.int .u64 gp] 233))
  have HB2:=Lib.hid ((C2.blk0 HBZ.out).alloc (.cells #[.bool gv,.bool gr,.bool gw,.bool gx,.bool gu,.bool gg,.bool ga,.bool gd,.int .i64 grs,.int .u64 gp] 233))
  have HP2:=Lib.hid (Blk.new w2 #[.bool gv,.bool gr,.bool gw,.bool gx,.bool gu,.bool gg,.bool ga,.bool gd,.int .i64 grs,.int .u64 gp] 233)
  clear C2;go_upto_region 5 with fail;generalize w2.alloc (.cells #[.bool gv,.bool gr,.bool gw,.bool gx,.bool gu,.bool gg,.bool ga,.bool gd,.int .i64 grs,.int .u64 gp] 233)=w3 at *;cases ok
  ·have HB:=HB2
   have HC:=HC2
   have HR:Hid (entryF b fr at'=(Pte.zero,51)):=Lib.hid (by rw [HE.out];rfl)
   have x0:=HB.out.cell' (i:=0) (v:=.bool false) rfl
   have f0:=HB.out.frozen 0
   have x1:=HB.out.cell' (i:=1) (v:=.bool false) rfl
   have f1:=HB.out.frozen 1
   have x2:=HB.out.cell' (i:=2) (v:=.bool false) rfl
   have f2:=HB.out.frozen 2
   have x3:=HB.out.cell' (i:=3) (v:=.bool false) rfl
   have f3:=HB.out.frozen 3
   have x4:=HB.out.cell' (i:=4) (v:=.bool false) rfl
   have f4:=HB.out.frozen 4
   have x5:=HB.out.cell' (i:=5) (v:=.bool false) rfl
   have f5:=HB.out.frozen 5
   have x6:=HB.out.cell' (i:=6) (v:=.bool false) rfl
   have f6:=HB.out.frozen 6
   have x7:=HB.out.cell' (i:=7) (v:=.bool false) rfl
   have f7:=HB.out.frozen 7
   have x8:=HB.out.cell' (i:=8) (v:=.int .i64 0) rfl
   have f8:=HB.out.frozen 8
   have x9:=HB.out.cell' (i:=9) (v:=.int .u64 0) rfl
   have f9:=HB.out.frozen 9
   have hbr:=HB.out.lt
   go_wp2_with fail;exact bodyPost_ret (v:=.tuple #[pteA Pte.zero,.int .i64 51]) (by simp [results,Tryz.results308,go_sem,pteA,Pte.zero,x0,x1,x2,x3,x4,x5,x6,x7,x8,x9,hbr]) rfl ⟨by rw [HR.out];rfl,((((((((((HC.out.setCell (.inr (Nat.le_refl _)) _).setCell (.inr (Nat.le_refl _)) _).setCell (.inr (Nat.le_refl _)) _).setCell (.inr (Nat.le_refl _)) _).setCell (.inr (Nat.le_refl _)) _).setCell (.inr (Nat.le_refl _)) _).setCell (.inr (Nat.le_refl _)) _).setCell (.inr (Nat.le_refl _)) _).setCell (.inr (Nat.le_refl _)) _).setCell (.inr (Nat.le_refl _)) _)⟩
  ·have HP:=HP2
   have y0:=HP.out.cell' (i:=0) (v:=.bool gv) rfl
   have y1:=HP.out.cell' (i:=1) (v:=.bool gr) rfl
   have y2:=HP.out.cell' (i:=2) (v:=.bool gw) rfl
   have y3:=HP.out.cell' (i:=3) (v:=.bool gx) rfl
   have y4:=HP.out.cell' (i:=4) (v:=.bool gu) rfl
   have y5:=HP.out.cell' (i:=5) (v:=.bool gg) rfl
   have y6:=HP.out.cell' (i:=6) (v:=.bool ga) rfl
   have y7:=HP.out.cell' (i:=7) (v:=.bool gd) rfl
   have y8:=HP.out.cell' (i:=8) (v:=.int .i64 grs) rfl
   have y9:=HP.out.cell' (i:=9) (v:=.int .u64 gp) rfl
   have hpr:=HP.out.lt
   have HCx:=HC2
   go_wp2_with fail;with_reducible refine (H2.out _).mono ?_
   rintro e w4 ⟨rfl,C4⟩;have HB:=Lib.hid (C4.blk0 HB2.out)
   have HC:=Lib.hid (HC2.out.step C4)
   have HP:=Lib.hid (C4.blk0 HP2.out)
   clear C4 y0 y1 y2 y3 y4 y5 y6 y7 y8 y9 hpr;cases rt
   ·
    have HR:Hid (entryF b fr at'=(Pte.zero,51)):=Lib.hid (by rw [HE.out];rfl)
    have x0:=HB.out.cell' (i:=0) (v:=.bool false) rfl
    have f0:=HB.out.frozen 0
    have x1:=HB.out.cell' (i:=1) (v:=.bool false) rfl
    have f1:=HB.out.frozen 1
    have x2:=HB.out.cell' (i:=2) (v:=.bool false) rfl
    have f2:=HB.out.frozen 2
    have x3:=HB.out.cell' (i:=3) (v:=.bool false) rfl
    have f3:=HB.out.frozen 3
    have x4:=HB.out.cell' (i:=4) (v:=.bool false) rfl
    have f4:=HB.out.frozen 4
    have x5:=HB.out.cell' (i:=5) (v:=.bool false) rfl
    have f5:=HB.out.frozen 5
    have x6:=HB.out.cell' (i:=6) (v:=.bool false) rfl
    have f6:=HB.out.frozen 6
    have x7:=HB.out.cell' (i:=7) (v:=.bool false) rfl
    have f7:=HB.out.frozen 7
    have x8:=HB.out.cell' (i:=8) (v:=.int .i64 0) rfl
    have f8:=HB.out.frozen 8
    have x9:=HB.out.cell' (i:=9) (v:=.int .u64 0) rfl
    have f9:=HB.out.frozen 9
    have hbr:=HB.out.lt
    go_wp2_with fail;exact bodyPost_ret (v:=.tuple #[pteA Pte.zero,.int .i64 51]) (by simp [results,Tryz.results308,go_sem,pteA,Pte.zero,x0,x1,x2,x3,x4,x5,x6,x7,x8,x9,hbr]) rfl ⟨by rw [HR.out];rfl,((((((((((HC.out.setCell (.inr (Nat.le_refl _)) _).setCell (.inr (Nat.le_refl _)) _).setCell (.inr (Nat.le_refl _)) _).setCell (.inr (Nat.le_refl _)) _).setCell (.inr (Nat.le_refl _)) _).setCell (.inr (Nat.le_refl _)) _).setCell (.inr (Nat.le_refl _)) _).setCell (.inr (Nat.le_refl _)) _).setCell (.inr (Nat.le_refl _)) _).setCell (.inr (Nat.le_refl _)) _)⟩
   ·have HR:Hid (entryF b fr at'=(⟨gv,gr,gw,gx,gu,gg,ga,gd,grs,gp⟩,0)):=Lib.hid (by rw [HE.out];rfl)
    have x0:=HB.out.cell' (i:=0) (v:=.bool false) rfl
    have f0:=HB.out.frozen 0
    have x1:=HB.out.cell' (i:=1) (v:=.bool false) rfl
    have f1:=HB.out.frozen 1
    have x2:=HB.out.cell' (i:=2) (v:=.bool false) rfl
    have f2:=HB.out.frozen 2
    have x3:=HB.out.cell' (i:=3) (v:=.bool false) rfl
    have f3:=HB.out.frozen 3
    have x4:=HB.out.cell' (i:=4) (v:=.bool false) rfl
    have f4:=HB.out.frozen 4
    have x5:=HB.out.cell' (i:=5) (v:=.bool false) rfl
    have f5:=HB.out.frozen 5
    have x6:=HB.out.cell' (i:=6) (v:=.bool false) rfl
    have f6:=HB.out.frozen 6
    have x7:=HB.out.cell' (i:=7) (v:=.bool false) rfl
    have f7:=HB.out.frozen 7
    have x8:=HB.out.cell' (i:=8) (v:=.int .i64 0) rfl
    have f8:=HB.out.frozen 8
    have x9:=HB.out.cell' (i:=9) (v:=.int .u64 0) rfl
    have f9:=HB.out.frozen 9
    have hbr:=HB.out.lt
    have y0:=HP.out.cell' (i:=0) (v:=.bool gv) rfl
    have y1:=HP.out.cell' (i:=1) (v:=.bool gr) rfl
    have y2:=HP.out.cell' (i:=2) (v:=.bool gw) rfl
    have y3:=HP.out.cell' (i:=3) (v:=.bool gx) rfl
    have y4:=HP.out.cell' (i:=4) (v:=.bool gu) rfl
    have y5:=HP.out.cell' (i:=5) (v:=.bool gg) rfl
    have y6:=HP.out.cell' (i:=6) (v:=.bool ga) rfl
    have y7:=HP.out.cell' (i:=7) (v:=.bool gd) rfl
    have y8:=HP.out.cell' (i:=8) (v:=.int .i64 grs) rfl
    have y9:=HP.out.cell' (i:=9) (v:=.int .u64 gp) rfl
    have hpr:=HP.out.lt
    go_wp2_with fail;exact bodyPost_ret (v:=.tuple #[.agg #[.bool gv,.bool gr,.bool gw,.bool gx,.bool gu,.bool gg,.bool ga,.bool gd,.int .i64 grs,.int .u64 gp],.int .i64 0]) (by simp [results,Tryz.results308,go_sem,x0,x1,x2,x3,x4,x5,x6,x7,x8,x9,hbr]) rfl ⟨by rw [HR.out],((((((((((HC.out.setCell (.inr (Nat.le_refl _)) _).setCell (.inr (Nat.le_refl _)) _).setCell (.inr (Nat.le_refl _)) _).setCell (.inr (Nat.le_refl _)) _).setCell (.inr (Nat.le_refl _)) _).setCell (.inr (Nat.le_refl _)) _).setCell (.inr (Nat.le_refl _)) _).setCell (.inr (Nat.le_refl _)) _).setCell (.inr (Nat.le_refl _)) _).setCell (.inr (Nat.le_refl _)) _)⟩
def tkMap (l:List Nat):List (Int×Value):=l.map fun f:Nat=>((f:Int),.bool true)
theorem tkMap_add (l:List Nat) (n:Nat):mput (tkMap l) n (.bool true)=tkMap (addN l n):=by
 induction l with
 | nil=>rfl
 | cons x l ih=>
  show (if (x:Int)=(n:Int) then _ else _)=tkMap (if x=n then _ else _)
  by_cases h:x=n
  ·rw [if_pos h,if_pos (by omega)];rfl
  ·rw [if_neg h,if_neg (by omega)]
   show _ :: mput (tkMap l) n _=_
   rw [ih]
   rfl
structure StkAt (w:World) (sb mp:Nat) (s:Stk):Prop where
 ne:mp≠sb
 blk:Blk w sb #[.int .i64 s.first,.int .i64 s.next,.int .i64 s.fin,.slice none 0 0,.map (some mp)] 226
 map:MapAt w mp .i64 (tkMap s.taken)
 sm:s.fin≤2097152
theorem StkAt.chg {w w':World} {S:Nat→Prop} {sb mp:Nat} {s:Stk} (h:StkAt w sb mp s) (c:Chg S w w') (h1:¬S sb) (h2:¬S mp):StkAt w' sb mp s:=
 ⟨h.ne,c.blk h.blk h1,h.map.chg c h2,h.sm⟩
theorem stkNew_any (n:Nat) (w:World) (hn:n≤1048576):Calls Tryz.prog 61 #[.int .i64 0,.int .i64 n] w (RetW (.tuple #[.pointer (some ⟨w.heap.size+1,0,none⟩),.int .i64 0]) fun w'=>StkAt w' (w.heap.size+1) w.heap.size ⟨0,0,n,[]⟩∧Chg NoB w w'):=by
 have t1:decide ((n:Int)<0)=false:=decide_eq_false (by omega)
 have t2:decide ((1048576:Int)<n)=false:=decide_eq_false (by omega)
 have t3:decide (1048576<n)=false:=decide_eq_false (by omega)
 have mk:∀w,(Instr.makeMap 224 none).run Tryz.prog w = .ok (.map (some w.heap.size)) (w.alloc (.map #[] 0)):=fun _=>rfl
 have HR:Hid (StkAt ((w.alloc (.map #[] 0)).alloc (.cells #[.int .i64 0,.int .i64 0,.int .i64 n,.slice none 0 0,.map (some w.heap.size)] 226)) (w.heap.size+1) w.heap.size ⟨0,0,n,[]⟩∧Chg NoB w ((w.alloc (.map #[] 0)).alloc (.cells #[.int .i64 0,.int .i64 0,.int .i64 n,.slice none 0 0,.map (some w.heap.size)] 226))):=Lib.hid (by
  refine ⟨⟨by omega,?_,?_,by show n≤_;omega⟩,(((Chg.refl NoB w).alloc _).alloc _)⟩
  ·have:=Blk.new (w.alloc (.map #[] 0)) #[.int .i64 0,.int .i64 0,.int .i64 n,.slice none 0 0,.map (some w.heap.size)] 226
   simpa using this
  ·exact (MapAt.new w .i64).chg ((Chg.refl NoB _).alloc _) id)
 go_enter Tryz.func61,Tryz.ntmps61;go_wp2_with fail;go_ret2
 exact ⟨rfl,HR.out⟩
theorem stkTake_some {w:World} {sb mp:Nat} {s:Stk} (h:StkAt w sb mp s) (hlt:s.next<s.fin) :
  Calls Tryz.prog 87 #[.pointer (some ⟨sb,0,none⟩)] w (RetW (.tuple #[.int .i64 s.next,.int .i64 0])
   fun w'=>StkAt w' sb mp { s with next:=s.next+1,taken:=addN s.taken s.next}∧Chg (fun k=>k=sb∨k=mp) w w'):=by
 have H:=Lib.hid h
 have e0:=h.blk.cell' (i:=0) (v:=.int .i64 s.first) rfl
 have e1:=h.blk.cell' (i:=1) (v:=.int .i64 s.next) rfl
 have e2:=h.blk.cell' (i:=2) (v:=.int .i64 s.fin) rfl
 have e3:=h.blk.cell' (i:=3) (v:=.slice none 0 0) rfl
 have e4:=h.blk.cell' (i:=4) (v:=.map (some mp)) rfl
 have hl:=h.blk.lt
 have hfz:=h.blk.frozen 1
 have hsm:=h.sm
 have t1:decide ((s.next:Int)<s.fin)=true:=decide_eq_true (by omega)
 have t2:decide (s.next<s.fin)=true:=decide_eq_true hlt
 have hup:((s.next:Int)+1)≤9223372036854775807:=by omega
 obtain ⟨nx,hnx⟩:∃nx,s.next=nx:=⟨_,rfl⟩
 have HM:=Lib.hid fun (w1:World) (hm:MapAt w1 mp .i64 (tkMap s.taken))=>run_mapput (P:=Tryz.prog) Tryz.underlying224 Tryz.underlying3 hm nx (.bool true)
 have HR:Hid (∀w1 w2,Blk w1 sb #[.int .i64 s.first,.int .i64 (nx+1),.int .i64 s.fin,.slice none 0 0,.map (some mp)] 226→Chg (fun k=>k=sb) w w1→MapAt w2 mp .i64 (mput (tkMap s.taken) nx (.bool true))→Chg (fun k=>k=mp) w1 w2→StkAt w2 sb mp { s with next:=nx+1,taken:=addN s.taken nx}∧Chg (fun k=>k=sb∨k=mp) w w2):=Lib.hid (by
  intro w1 w2 hb c1 hm c2;refine ⟨⟨h.ne,c2.blk hb (fun e=>h.ne e.symm),by show MapAt _ _ _ (tkMap (addN _ _));rw [←tkMap_add];exact hm,h.sm⟩,?_⟩
  exact (c1.mono (S':=fun k=>k=sb∨k=mp) fun k _ e=>.inl e).trans c2 fun k _ e=>.inr e)
 rw [hnx] at e1 t1 t2 hup ⊢
 have HN:=Lib.hid hnx
 clear h hlt hsm hnx;go_enter Tryz.func87,Tryz.ntmps87;go_upto_region 9 with fail;go_quiet (fail)
 have C0:=(Chg.refl (fun k=>k=sb) w).drewN nq
 have B0:=(H.out.blk).drewN nq
 rw [HN.out] at B0
 have M0:=H.out.map.chg ((Chg.refl NoB w).drewN nq) id
 generalize w.drewN nq=wq at *;obtain ⟨w2,hmu,hma,hmc⟩:=HM.out _ (M0.chg (w':=wq.setCell ⟨sb,1,none⟩ (.int .i64 ((nx:Int)+1))) (S:=fun k=>k=sb) ((Chg.refl (fun k=>k=sb) wq).setCell (.inl rfl) _) H.out.ne)
 have HX:=Lib.hid (HR.out _ w2 (B0.set 1 (.int .i64 ((nx:Int)+1))) (C0.setCell (.inl rfl) _) hma hmc)
 have e1:=B0.cell' (i:=1) (v:=.int .i64 nx) rfl
 have e4:=B0.cell' (i:=4) (v:=.map (some mp)) rfl
 have hl:=B0.lt
 have hfz:=B0.frozen 1
 clear B0 C0 M0 hma hmc H HM HR;go_wp2_with fail;go_ret2
 exact ⟨rfl,HX.out⟩
theorem stkTake_none {w:World} {sb mp:Nat} {s:Stk} (h:StkAt w sb mp s) (hge:s.fin≤s.next) :
  Calls Tryz.prog 87 #[.pointer (some ⟨sb,0,none⟩)] w (RetW (.tuple #[.int .i64 (-1),.int .i64 50]) fun w'=>Chg NoB w w'):=by
 have e0:=h.blk.cell' (i:=0) (v:=.int .i64 s.first) rfl
 have e1:=h.blk.cell' (i:=1) (v:=.int .i64 s.next) rfl
 have e2:=h.blk.cell' (i:=2) (v:=.int .i64 s.fin) rfl
 have e3:=h.blk.cell' (i:=3) (v:=.slice none 0 0) rfl
 have e4:=h.blk.cell' (i:=4) (v:=.map (some mp)) rfl
 have hl:=h.blk.lt
 have hfz:=h.blk.frozen 1
 have t1:decide ((s.next:Int)<s.fin)=false:=decide_eq_false (by omega)
 have t2:decide (s.next<s.fin)=false:=decide_eq_false (by omega)
 clear h hge;go_enter Tryz.func87,Tryz.ntmps87;go_upto_region 9 with fail;go_quiet (fail)
 have HC:=Lib.hid ((Chg.refl NoB w).drewN nq)
 go_wp2_with fail;go_ret2
 exact ⟨rfl,HC.out⟩
structure TabAt (w:World) (SM:Nat→Prop) (mb fr sb mp tb root:Nat) (t:Tst):Prop where
 mem:MemAt w SM mb t.b fr
 stk:StkAt w sb mp t.s
 tab:Blk w tb #[.pointer (some ⟨mb,0,none⟩),.pointer (some ⟨sb,0,none⟩),.int .i64 root,.int .i64 t.used] 228
 n1:¬SM sb
 n2:¬SM mp
 n3:¬SM tb
 n4:tb≠sb
 n5:tb≠mp
 ok:t.s.Ok fr
 us:t.used≤t.s.next
 fr:fr≤1048576
def TS (SM:Nat→Prop) (sb mp tb:Nat):Nat→Prop:=fun k=>SM k∨k=sb∨k=mp∨k=tb
section
variable {w w' w'':World} {SM SM' S:Nat→Prop} {mb fr sb mp tb root:Nat} {t:Tst}
theorem TabAt.chg (h:TabAt w SM mb fr sb mp tb root t) (c:Chg S w w') (hs:∀k,TS SM sb mp tb k→¬S k):TabAt w' SM mb fr sb mp tb root t:=
 ⟨h.mem.chg c fun k hk=>hs k (.inl hk),h.stk.chg c (hs _ (.inr (.inl rfl))) (hs _ (.inr (.inr (.inl rfl)))),c.blk h.tab (hs _ (.inr (.inr (.inr rfl)))),h.n1,h.n2,h.n3,h.n4,h.n5,h.ok,h.us,h.fr⟩
theorem TabAt.chg0 (h:TabAt w SM mb fr sb mp tb root t) (c:Chg NoB w w'):TabAt w' SM mb fr sb mp tb root t:=h.chg c fun _ _=>id
theorem TabAt.mono (h:TabAt w SM mb fr sb mp tb root t) (hs:∀k,k<w.heap.size→(SM k↔SM' k)):TabAt w SM' mb fr sb mp tb root t:=
 ⟨h.mem.mono fun k hk=>(hs k hk).1,h.stk,h.tab,fun e=>h.n1 ((hs _ h.stk.blk.lt).2 e),fun e=>h.n2 ((hs _ h.stk.map.lt).2 e),fun e=>h.n3 ((hs _ h.tab.lt).2 e),h.n4,h.n5,h.ok,h.us,h.fr⟩
theorem TabAt.store {b:By} (h:TabAt w SM mb fr sb mp tb root t) (hm:MemAt w' (Grow SM w) mb b fr) (c:Chg SM w w'):TabAt w' (Grow SM w) mb fr sb mp tb root { t with b:=b}:=
 ⟨hm,h.stk.chg c h.n1 h.n2,c.blk h.tab h.n3,fun e=>e.elim h.n1 (fun e=>by have:=h.stk.blk.lt;omega),fun e=>e.elim h.n2 (fun e=>by have:=h.stk.map.lt;omega),
  fun e=>e.elim h.n3 (fun e=>by have:=h.tab.lt;omega),h.n4,h.n5,h.ok,h.us,h.fr⟩
theorem TabAt.grow2 (h:TabAt w'' (Grow (Grow SM w) w') mb fr sb mp tb root t) (hs:w.heap.size≤w'.heap.size):TabAt w'' (Grow SM w) mb fr sb mp tb root t:=
 h.mono fun k hk=>⟨fun e=>e.elim id fun e=>.inr (by omega),fun e=>.inl e⟩
theorem TabAt.grow3 {t':Tst} (h:TabAt w'' (Grow SM w') mb fr sb mp tb root t') (h0:TabAt w SM mb fr sb mp tb root t) (hs:w.heap.size≤w'.heap.size):TabAt w'' (Grow SM w) mb fr sb mp tb root t':=by
 have:=h0.stk.blk.lt;have:=h0.stk.map.lt;have:=h0.tab.lt
 exact ⟨h.mem.mono fun k _ e=>e.elim .inl fun e=>.inr (by omega),h.stk,h.tab,fun e=>e.elim h0.n1 (fun e=>by omega),fun e=>e.elim h0.n2 (fun e=>by omega),fun e=>e.elim h0.n3 (fun e=>by omega),h.n4,h.n5,h.ok,h.us,h.fr⟩
theorem TabAt.grow0 (h:TabAt w' SM mb fr sb mp tb root t) (h0:TabAt w SM mb fr sb mp tb root t):TabAt w' (Grow SM w) mb fr sb mp tb root t:=by
 have:=h0.stk.blk.lt;have:=h0.stk.map.lt;have:=h0.tab.lt
 exact ⟨h.mem.mono fun k _ e=>.inl e,h.stk,h.tab,fun e=>e.elim h0.n1 (fun e=>by omega),fun e=>e.elim h0.n2 (fun e=>by omega),fun e=>e.elim h0.n3 (fun e=>by omega),h.n4,h.n5,h.ok,h.us,h.fr⟩
theorem TS.grow {k:Nat} (h:TS (Grow SM w) sb mp tb k) (hk:k<w.heap.size):TS SM sb mp tb k:=by
 rcases h with h | h
 ·rcases h with h | h
  ·exact .inl h
  ·exact absurd hk (by omega)
 ·exact .inr h
end
theorem tabTake_some {t:Tst} (h:t.s.next<t.s.fin):tabTake t=((t.s.next,0),⟨zeroPg t.b t.s.next,{ t.s with next:=t.s.next+1,taken:=addN t.s.taken t.s.next},t.used+1⟩):=by
 unfold tabTake Stk.take
 rw [if_pos h]
theorem tabTake_none {t:Tst} (h:t.s.fin≤t.s.next):tabTake t=((0,50),t):=by
 unfold tabTake Stk.take
 rw [if_neg (by omega)]
theorem layPg_zero (b:By) (f:Nat):layPg b f (padF (fun _=>0) 0)=zeroPg b f:=by
 funext a
 unfold layPg zeroPg padF
 simp
theorem take_none {SM:Nat→Prop} {w:World} {mb fr sb mp tb root:Nat} {t:Tst} (h:TabAt w SM mb fr sb mp tb root t) (hge:t.s.fin≤t.s.next) :
  Calls Tryz.prog 86 #[.pointer (some ⟨tb,0,none⟩)] w (RetW (.tuple #[.int .i64 (-1),.int .i64 50]) fun w'=>TabAt w' SM mb fr sb mp tb root t∧Chg NoB w w'):=by
 have H:=Lib.hid h
 have HT:=Lib.hid (stkTake_none h.stk hge)
 have e1:=h.tab.cell' (i:=1) (v:=.pointer (some ⟨sb,0,none⟩)) rfl
 have hl:=h.tab.lt
 clear h hge;go_enter Tryz.func86,Tryz.ntmps86;go_wp2_with fail;with_reducible refine HT.out.mono ?_
 rintro e w1 ⟨rfl,C1⟩;have HX:=Lib.hid (And.intro (H.out.chg0 C1) C1)
 clear C1;go_wp2_with fail;go_ret2
 exact ⟨rfl,HX.out⟩
theorem take_some {SM:Nat→Prop} {w:World} {mb fr sb mp tb root:Nat} {t:Tst} (h:TabAt w SM mb fr sb mp tb root t) (hlt:t.s.next<t.s.fin) :
  Calls Tryz.prog 86 #[.pointer (some ⟨tb,0,none⟩)] w (RetW (.tuple #[.int .i64 t.s.next,.int .i64 0]) fun w'=>TabAt w' (Grow SM w) mb fr sb mp tb root (tabTake t).2∧Chg (TS SM sb mp tb) w w'):=by
 have H:=Lib.hid h
 have HT:=Lib.hid (stkTake_some h.stk hlt)
 have e1:=h.tab.cell' (i:=1) (v:=.pointer (some ⟨sb,0,none⟩)) rfl
 have hl:=h.tab.lt
 obtain ⟨nx,hnx⟩:∃nx,t.s.next=nx:=⟨_,rfl⟩
 have HP:Hid (∀w1,Chg (fun k=>k=sb∨k=mp) w w1→Calls Tryz.prog 121 #[.pointer (some ⟨mb,0,none⟩),.int .i64 nx,.slice none 0 0] w1 (RetW (.int .i64 0) fun w'=>MemAt w' (Grow SM w1) mb (zeroPg t.b nx) fr∧Chg SM w1 w')):=Lib.hid fun w1 c=>by
  have:=setPage_any (h.mem.chg c (fun k hk e=>e.elim (fun e=>h.n1 (e▸hk)) fun e=>h.n2 (e▸hk))) nx (by have:=h.ok.fin;omega) (.slice none 0 0) 0 (fun _=>0) (fun _=>by show 0<256;omega) (Sl.nil w1 NoB 1) (by omega)
  rwa [layPg_zero] at this
 have hus:((t.used:Int)+1)≤9223372036854775807:=by have:=h.us;have:=h.ok.next;have:=h.ok.fin;have:=h.fr;omega
 have HR:Hid (∀w1 w2,StkAt w1 sb mp { t.s with next:=nx+1,taken:=addN t.s.taken nx}→Chg (fun k=>k=sb∨k=mp) w w1→MemAt w2 (Grow SM w1) mb (zeroPg t.b nx) fr→Chg SM w1 w2→
   Blk w2 tb #[.pointer (some ⟨mb,0,none⟩),.pointer (some ⟨sb,0,none⟩),.int .i64 root,.int .i64 t.used] 228∧
   (TabAt (w2.setCell ⟨tb,3,none⟩ (.int .i64 ((t.used:Int)+1))) (Grow SM w) mb fr sb mp tb root (tabTake t).2∧Chg (TS SM sb mp tb) w (w2.setCell ⟨tb,3,none⟩ (.int .i64 ((t.used:Int)+1))))):=Lib.hid fun w1 w2 k1 c1 m2 c2=>by
  rw [tabTake_some hlt,hnx]
  have b1:=c1.blk h.tab (fun e=>e.elim h.n4 h.n5)
  have b2:=c2.blk b1 h.n3
  have c3:Chg (fun k=>k=tb) w2 (w2.setCell ⟨tb,3,none⟩ (.int .i64 ((t.used:Int)+1))):=(Chg.refl (fun k=>k=tb) w2).setCell (.inl rfl) _
  have g:∀k,k<w.heap.size→Grow SM w k→SM k:=fun k hk e=>e.elim id fun e=>by omega
  have m2':MemAt w2 (Grow SM w) mb (zeroPg t.b nx) fr:=m2.mono fun k _ e=>e.elim .inl fun e=>.inr (by have:=c1.size;omega)
  have hd:∀k,Grow SM w k→¬k=tb:=fun k hk e=>h.n3 (g _ h.tab.lt (e▸hk))
  have k2:=(k1.chg c2 h.n1 h.n2).chg c3 (fun e=>h.n4 e.symm) (fun e=>h.n5 e.symm)
  refine ⟨b2,⟨m2'.chg c3 hd,k2,b2.set 3 _,fun e=>h.n1 (g _ h.stk.blk.lt e),fun e=>h.n2 (g _ h.stk.map.lt e),fun e=>h.n3 (g _ h.tab.lt e),h.n4,h.n5,⟨?_,h.ok.fin⟩,?_,h.fr⟩,?_⟩
  ·show nx+1≤t.s.fin;omega
  ·show t.used+1≤nx+1;have:=h.us;omega
  ·exact (((c1.mono (S':=TS SM sb mp tb) fun k _ e=>.inr (e.elim .inl fun e=>.inr (.inl e))).trans c2 fun k _ e=>.inl e).trans c3 fun k _ e=>.inr (.inr (.inr e)))
 have HB0:Hid (∀w1,Chg (fun k=>k=sb∨k=mp) w w1→Blk w1 tb #[.pointer (some ⟨mb,0,none⟩),.pointer (some ⟨sb,0,none⟩),.int .i64 root,.int .i64 t.used] 228):=Lib.hid fun w1 c1=>c1.blk h.tab (fun e=>e.elim h.n4 h.n5)
 rw [hnx] at HT ⊢
 clear h hlt hnx H;go_enter Tryz.func86,Tryz.ntmps86;go_wp2_with fail;with_reducible refine HT.out.mono ?_
 rintro e w1 ⟨rfl,K1,C1⟩;have HK:=Lib.hid K1
 have HC:=Lib.hid C1
 have B1:=HB0.out w1 C1
 have f0:=B1.cell' (i:=0) (v:=.pointer (some ⟨mb,0,none⟩)) rfl
 have hl1:=B1.lt
 clear K1 C1 B1;go_wp2_with fail;with_reducible refine (HP.out _ HC.out).mono ?_
 rintro e w2 ⟨rfl,M2,C2⟩;obtain ⟨B2,HX⟩:=HR.out _ _ HK.out HC.out M2 C2
 have HX:=Lib.hid HX
 have g3:=B2.cell' (i:=3) (v:=.int .i64 t.used) rfl
 have gl:=B2.lt
 have gz:=B2.frozen 3
 clear M2 C2 B2;go_wp2_with fail;go_ret2
 exact ⟨rfl,HX.out⟩
end Go.Proofs.YtjhnnjgnkkjmkaaGreatDoor
