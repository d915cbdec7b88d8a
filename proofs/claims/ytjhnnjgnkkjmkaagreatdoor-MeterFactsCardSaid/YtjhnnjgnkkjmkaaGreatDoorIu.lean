/- The meter laws' first call. No condition. Facts counted, by the program and by the reference. No condition. Facts counted: the whole calls; two lists compared; the reference's counting. No condition. MeterFacts. No condition. Facts that can be read as data. No condition. -/
import Derived.Test.YtjhnnjgnkkjmkaaGreatDoorIp
import Derived.Test.YtjhnnjgnkkjmkaaGreatDoorIs
import Derived.Test.YtjhnnjgnkkjmkaaGreatDoorIe
import Derived.Test.YtjhnnjgnkkjmkaaGreatDoorGa
import Derived.Test.YtjhnnjgnkkjmkaaGreatDoorGd
import Derived.Shelf.Abstract
import Derived.Test.YtjhnnjgnkkjmkaaGreatDoorFb
set_option maxHeartbeats 4000000
set_option maxRecDepth 100000
set_option linter.unusedVariables false
set_option linter.unusedSimpArgs false
namespace Go.Proofs.YtjhnnjgnkkjmkaaGreatDoor
open Go.RowKit Go.RR
theorem mq_prog:progL (preI ++ [⟨29,0,1,1,0⟩])=mq:=by decide
theorem tl7_val:talV (tlF 7) = .agg #[.int .i64 0,.int .i64 0,.int .i64 3,.int .i64 1,.int .i64 0,.int .i64 4,.int .i64 0,.int .i64 0,.int .i64 0,.int .i64 0,.int .i64 0,.int .i64 1,.int .i64 2,.int .i64 0,.int .i64 0,.int .i64 0,.int .i64 0,.int .i64 0,.int .i64 0,.int .i64 0,.int .i64 0,.int .i64 0,.int .i64 0,.int .i64 0]:=by rfl
theorem tl7_c:tallyC (tlF 7) = #[.int .i64 0,.int .i64 0,.int .i64 3,.int .i64 1,.int .i64 0,.int .i64 4,.int .i64 0,.int .i64 0,.int .i64 0,.int .i64 0,.int .i64 0,.int .i64 1,.int .i64 2,.int .i64 0,.int .i64 0,.int .i64 0,.int .i64 0,.int .i64 0,.int .i64 0,.int .i64 0,.int .i64 0,.int .i64 0,.int .i64 0,.int .i64 0]:=by rfl
theorem tl7_sum:tallyC (sumT (tlF 7) (tlF 7)) = #[.int .i64 0,.int .i64 0,.int .i64 6,.int .i64 2,.int .i64 0,.int .i64 8,.int .i64 0,.int .i64 0,.int .i64 0,.int .i64 0,.int .i64 0,.int .i64 2,.int .i64 4,.int .i64 0,.int .i64 0,.int .i64 0,.int .i64 0,.int .i64 0,.int .i64 0,.int .i64 0,.int .i64 0,.int .i64 0,.int .i64 0,.int .i64 0]:=by rfl
theorem tl7_fld (w:World):(Instr.field 26 (.agg #[.int .i64 0,.int .i64 0,.int .i64 6,.int .i64 2,.int .i64 0,.int .i64 8,.int .i64 0,.int .i64 0,.int .i64 0,.int .i64 0,.int .i64 0,.int .i64 2,.int .i64 4,.int .i64 0,.int .i64 0,.int .i64 0,.int .i64 0,.int .i64 0,.int .i64 0,.int .i64 0,.int .i64 0,.int .i64 0,.int .i64 0,.int .i64 0]) 2).run Tryz.prog w = .ok (.int .i64 4) w:=by kernel_rfl
theorem five_guard:Tryz.prog.eqGuardType Tryz.prog.depth 22=false:=by kernel_rfl
theorem five_eq (w:World):(Op.equalIn 10000 22 (.agg #[.int .i64 0,.int .i64 0,.int .i64 3,.int .i64 1,.int .i64 0]) (.agg #[.int .i64 0,.int .i64 0,.int .i64 3,.int .i64 1,.int .i64 0])).run Tryz.prog w = .ok true w:=by kernel_rfl
theorem tl7_len:100<(textT (tlF 7)).length:=by decide +kernel
def dsM (i:Nat):List Nat:=if i=0 then progB mq else []
theorem wpList_load_g {P:Program} {ops:Array Oper} {rest:List Oper} {op:Oper} {a:Act} {w:World} {Q:Exit→Act→World→Prop} (hw:Region.wanted op (yielded ops a.tmps)=true) (ty:TypeId) (x:Operand) (ho:op.op = .load ty x)
  (b o:Nat) (hx:a.eval x = .pointer (some ⟨b,o,none⟩)) (cs:List Value) (d:TypeDesc) (hc:w.rangeAt b o cs)
  (hu:P.underlying ty=some d) (hd:d.isRow=true) (hi:(P.info? ty).map (·.size)=some cs.length)
  (h:wpList P ops Q rest (a.put op.dst (.agg cs.toArray)) w):wpList P ops Q (op :: rest) a w:=by
 unfold wpList
 rw [if_pos hw]
 exact .inl (wp_load_mid ty x ho b o hx cs d hc hu hd hi h)
theorem MSt.start {w0 w2 w3 w4:World} {F0:Nat→Prop} {Fn:Nat→Nat→Prop} {cb:Nat} {nb:Nat→Nat} (hQ:QC w2 F0 Fn cb 2 1 nb x0 (yNew 1 dsM)) (hM:MtAt w3 w2.heap.size cb (fun _=>0)) (hC:Chg NoB w2 w3) (h4:w4=w3.alloc (.cells #[.int .i64 0,.int .i64 0,.int .i64 0,.int .i64 0,.int .i64 0,.int .i64 0,.int .i64 0,.int .i64 0,.int .i64 0,.int .i64 0,.int .i64 0,.int .i64 0,.int .i64 1,.int .i64 0,.int .i64 0,.int .i64 6,.int .i64 0,.int .i64 0,.int .i64 0,.int .i64 5,.int .i64 0] 57)) (h0:Chg NoB w0 w2) (hlo:∀k,InC F0 Fn 2 k→w0.heap.size≤k) :
  MSt w0 w4 w2.heap.size cb (fun k=>k=w3.heap.size) (.slice (some ⟨w3.heap.size,0,none⟩) 7 7) scF tl0 (PA mc0 0):=by
 subst h4;have c4:Chg NoB w3 (w3.alloc (.cells #[.int .i64 0,.int .i64 0,.int .i64 0,.int .i64 0,.int .i64 0,.int .i64 0,.int .i64 0,.int .i64 0,.int .i64 0,.int .i64 0,.int .i64 0,.int .i64 0,.int .i64 1,.int .i64 0,.int .i64 0,.int .i64 6,.int .i64 0,.int .i64 0,.int .i64 0,.int .i64 5,.int .i64 0] 57)):=(Chg.refl NoB w3).alloc _
 have hz:=hC.size
 have hm:=hM.lt
 refine ⟨c4.blk0 hM,Sl.fresh w3 (actsC scF 7) 57 7 rfl,fun k e=>⟨by rw [e,World.size_alloc];omega,by rw [e];omega⟩,(((h0.step hC).step c4)).mono fun _ _ e=>e.elim,h0.size,InC F0 Fn 2,nb,⟨x0,F0,Fn,_,(hQ.chg0 hC).chg0 c4,⟨⟨Nat.le_refl 0,Nat.le_refl 0,Nat.le_refl 0,Nat.le_refl 0,Nat.le_refl 0⟩,rfl,nb_made mq_r (by decide),rfl,rfl⟩,fun k hk=>.inl hk⟩,fun k hk=>?_,fun e=>absurd (hQ.lt _ e) (Nat.lt_irrefl _),fun k e1 e2=>?_,hlo⟩
 ·have:=hQ.lt k hk;rw [World.size_alloc];omega
 ·have:=hQ.lt k e2;rw [e1] at this;omega
theorem first35_any {w:World} (L:Lb w):Calls Tryz.prog 5 #[] w (RetW (.bool true) fun w'=>Chg NoB w w'):=by
 have HL:=Lib.hid L
 clear L;have HU:=Lib.hid (usual_any 2 1 w)
 go_enter Tryz.func5,Tryz.ntmps5;go_wp2_with fail;with_reducible refine HU.out.mono ?_
 rintro e w1 ⟨rfl,c1⟩;have HC1:=Lib.hid c1
 have HI:Hid (Sl (w1.alloc (.cells #[.int .i64 29,.int .i64 0,.int .i64 1,.int .i64 1,.int .i64 0] 50)) (fun k=>k=w1.heap.size) 5 (.slice (some ⟨w1.heap.size,0,none⟩) 1 1) 1 (icells [⟨29,0,1,1,0⟩])):=Lib.hid (Sl.fresh w1 (icells [⟨29,0,1,1,0⟩]) 50 1 (size:=5) rfl)
 have HPr:=Lib.hid (program_any [⟨29,0,1,1,0⟩] _ _ HI.out (by decide))
 rw [mq_prog] at HPr
 have HC2:=Lib.hid (c1.alloc (.cells #[.int .i64 29,.int .i64 0,.int .i64 1,.int .i64 1,.int .i64 0] 50))
 clear c1 HI HU;unfold confC
 go_wp2_with fail;with_reducible refine HPr.out.mono ?_
 rintro e w2 ⟨bv,rfl,hO,c2⟩;have HO:=Lib.hid hO
 have HC3:=Lib.hid (HC2.out.step c2)
 have c3:=(Chg.refl NoB w2).alloc (.cells #[bv] 46)
 have HC4:=Lib.hid (HC3.out.step c3)
 have HNw:=Lib.hid (cNewR (w:=w2.alloc (.cells #[bv] 46)) 2 1 (.inl rfl) (by decide) (by decide) 1 (by decide) (.slice (some ⟨w2.heap.size,0,none⟩) 1 1) _ (fun _=>bv) (fun _ k=>k<w2.heap.size+1) dsM (Sl.fresh w2 [bv] 46 1 rfl) (fun i hi=>(by rw [show dsM i=progB mq from if_pos (by omega)];exact (hO.sl.chg0 c3).monoIn fun k hk _=>by rw [World.size_alloc] at hk;exact hk)) (fun i k hi hk=>by rw [World.size_alloc];exact hk) (fun i x hx=>by
  unfold dsM at hx
  split at hx
  ·exact progB_lt mq x hx
  ·cases hx) (fun i=>by
  unfold dsM
  split
  ·decide
  ·decide) (fun i hi=>if_neg (by omega)))
 obtain ⟨bp,bc,hbv⟩:=hO.form
 subst hbv;clear hO c2 c3 HPr HC2 HC3;replace HNw:Hid (Calls Tryz.prog 15 #[.agg #[.int .i64 2,.int .i64 1,.int .i64 1,.int .i64 2,.int .i64 2,.int .i64 2,.int .i64 2,.int .i64 3,.int .i64 12],.slice (some ⟨w2.heap.size,0,none⟩) 1 1] (w2.alloc (.cells #[.slice bp (progB mq).length bc] 46)) _):=HNw
 go_wp2_with fail;with_reducible refine HNw.out.mono ?_
 rintro e w3 ⟨cv,rfl,cb,F0,Fn,nb,rfl,hQ,hF,c4⟩;have HQ:=Lib.hid hQ
 have HC5:=Lib.hid (HC4.out.step c4)
 have HMn:=Lib.hid (mNew_any w3 cb)
 clear hQ c4 HNw HO;go_wp2_with fail;with_reducible refine HMn.out.mono ?_
 rintro e w4 ⟨rfl,hM,c5⟩;have HMS:=Lib.hid (script_any (MSt.start (w0:=w) HQ.out hM c5 rfl HC5.out (fun k hk=>Nat.le_trans HC4.out.size (hF k hk))))
 have HC6:=Lib.hid ((HC5.out.step c5).alloc (.cells #[.int .i64 0,.int .i64 0,.int .i64 0,.int .i64 0,.int .i64 0,.int .i64 0,.int .i64 0,.int .i64 0,.int .i64 0,.int .i64 0,.int .i64 0,.int .i64 0,.int .i64 1,.int .i64 0,.int .i64 0,.int .i64 6,.int .i64 0,.int .i64 0,.int .i64 0,.int .i64 5,.int .i64 0] 57))
 have HW:Hid (w3.heap.size<w4.heap.size):=Lib.hid hM.lt
 clear hM c5 HMn HQ HC5 HC4 hF;go_wp2_with fail;with_reducible refine HMS.out.mono ?_
 rintro e w5 ⟨rfl,hS⟩;have HM5:=Lib.hid hS.m
 have HC7:=Lib.hid (hS.ch.mono (S':=fun _=>False) fun k hk e=>absurd e (Nat.not_le_of_lt hk))
 clear hS HMS;have HTl:=Lib.hid (mTally_any HM5.out)
 rw [tl7_val] at HTl
 go_wp2_with fail;with_reducible refine HTl.out.mono ?_
 rintro e w6 ⟨rfl,c6⟩;have HC8:=Lib.hid (HC7.out.step c6)
 clear c6 HTl HM5 HC7;have hB0:=Blk.new w6 #[.int .i64 0,.int .i64 0,.int .i64 0,.int .i64 0,.int .i64 0,.int .i64 0,.int .i64 0,.int .i64 0,.int .i64 0,.int .i64 0,.int .i64 0,.int .i64 0,.int .i64 0,.int .i64 0,.int .i64 0,.int .i64 0,.int .i64 0,.int .i64 0,.int .i64 0,.int .i64 0,.int .i64 0,.int .i64 0,.int .i64 0,.int .i64 0] 26
 have c7:=(Chg.refl NoB w6).alloc (.cells #[.int .i64 0,.int .i64 0,.int .i64 0,.int .i64 0,.int .i64 0,.int .i64 0,.int .i64 0,.int .i64 0,.int .i64 0,.int .i64 0,.int .i64 0,.int .i64 0,.int .i64 0,.int .i64 0,.int .i64 0,.int .i64 0,.int .i64 0,.int .i64 0,.int .i64 0,.int .i64 0,.int .i64 0,.int .i64 0,.int .i64 0,.int .i64 0] 26)
 generalize hw7:w6.alloc (.cells #[.int .i64 0,.int .i64 0,.int .i64 0,.int .i64 0,.int .i64 0,.int .i64 0,.int .i64 0,.int .i64 0,.int .i64 0,.int .i64 0,.int .i64 0,.int .i64 0,.int .i64 0,.int .i64 0,.int .i64 0,.int .i64 0,.int .i64 0,.int .i64 0,.int .i64 0,.int .i64 0,.int .i64 0,.int .i64 0,.int .i64 0,.int .i64 0] 26)=w7 at *;have ht:w7.there w6.heap.size 0 24:=blk_there hB0 rfl
 have HS:=store_all hB0 [.int .i64 0,.int .i64 0,.int .i64 3,.int .i64 1,.int .i64 0,.int .i64 4,.int .i64 0,.int .i64 0,.int .i64 0,.int .i64 0,.int .i64 0,.int .i64 1,.int .i64 2,.int .i64 0,.int .i64 0,.int .i64 0,.int .i64 0,.int .i64 0,.int .i64 0,.int .i64 0,.int .i64 0,.int .i64 0,.int .i64 0,.int .i64 0] rfl
 have HC9:=Lib.hid (HC8.out.step (chg_fresh c7 HS.2 (Nat.le_refl _)))
 have HB9:=Lib.hid HS.1
 clear HS c7 hB0 HC8;go_upto_region 6 with (first | (refine wpList_store_mid rfl _ _ _ rfl w6.heap.size 0 #[.int .i64 0,.int .i64 0,.int .i64 3,.int .i64 1,.int .i64 0,.int .i64 4,.int .i64 0,.int .i64 0,.int .i64 0,.int .i64 0,.int .i64 0,.int .i64 1,.int .i64 2,.int .i64 0,.int .i64 0,.int .i64 0,.int .i64 0,.int .i64 0,.int .i64 0,.int .i64 0,.int .i64 0,.int .i64 0,.int .i64 0,.int .i64 0] rfl rfl ht tally_info (by simp [Value.oneCell']) ?_))
 obtain ⟨w8,hw8⟩:∃x,w7.setCells w6.heap.size 0 [.int .i64 0,.int .i64 0,.int .i64 3,.int .i64 1,.int .i64 0,.int .i64 4,.int .i64 0,.int .i64 0,.int .i64 0,.int .i64 0,.int .i64 0,.int .i64 1,.int .i64 2,.int .i64 0,.int .i64 0,.int .i64 0,.int .i64 0,.int .i64 0,.int .i64 0,.int .i64 0,.int .i64 0,.int .i64 0,.int .i64 0,.int .i64 0]=x:=⟨_,rfl⟩
 simp only [hw8]
 rw [hw8] at HC9 HB9
 have q0:=HB9.out.cell' (i:=0) (v:=.int .i64 0) rfl
 have q1:=HB9.out.cell' (i:=1) (v:=.int .i64 0) rfl
 have q2:=HB9.out.cell' (i:=2) (v:=.int .i64 3) rfl
 have q3:=HB9.out.cell' (i:=3) (v:=.int .i64 1) rfl
 have q4:=HB9.out.cell' (i:=4) (v:=.int .i64 0) rfl
 have q11:=HB9.out.cell' (i:=11) (v:=.int .i64 1) rfl
 have q12:=HB9.out.cell' (i:=12) (v:=.int .i64 2) rfl
 have ql:=HB9.out.lt
 have hr:w8.rangeAt w6.heap.size 0 [.int .i64 0,.int .i64 0,.int .i64 3,.int .i64 1,.int .i64 0,.int .i64 4,.int .i64 0,.int .i64 0,.int .i64 0,.int .i64 0,.int .i64 0,.int .i64 1,.int .i64 2,.int .i64 0,.int .i64 0,.int .i64 0,.int .i64 0,.int .i64 0,.int .i64 0,.int .i64 0,.int .i64 0,.int .i64 0,.int .i64 0,.int .i64 0]:=fun j v hj=>by rw [Nat.zero_add];exact HB9.out.cell' ((List.getElem?_toArray ..).trans hj)
 have hsm:=sum_any (w:=w8) (t:=tlF 7) (u:=tlF 7) (fun k=>by have:=tlF_b 7 k;omega) (fun k=>by have:=tlF_b 7 k;omega)
 rw [tl7_c,tl7_sum] at hsm
 have HSm:=Lib.hid hsm
 have htx:∀w',Chg NoB w8 w'→Calls Tryz.prog _ #[.agg (tallyC (tlF 7))] w' (RetW (.string ⟨(textT (tlF 7)).toArray⟩) fun w''=>Chg NoB w' w''):=fun w' c=>tText_any ((HL.out.chg0 HC9.out).chg0 c) (tlF 7) (fun k=>by have:=tlF_b 7 k;exact ⟨by omega,by omega⟩)
 rw [tl7_c] at htx
 have htl:=tl7_len
 generalize textT (tlF 7)=TX at *;have HTx:=Lib.hid htx
 have fld:=tl7_fld
 clear hsm htx;have f1:=five_guard
 have f2:=five_eq
 clear hw8 ht hw7;go_wp2_with (first | (refine wpList_load_g (by rfl) _ _ rfl w6.heap.size 0 rfl [.int .i64 0,.int .i64 0,.int .i64 3,.int .i64 1,.int .i64 0,.int .i64 4,.int .i64 0,.int .i64 0,.int .i64 0,.int .i64 0,.int .i64 0,.int .i64 1,.int .i64 2,.int .i64 0,.int .i64 0,.int .i64 0,.int .i64 0,.int .i64 0,.int .i64 0,.int .i64 0,.int .i64 0,.int .i64 0,.int .i64 0,.int .i64 0] _ hr Tryz.underlying26 rfl tally_info ?_))
 with_reducible refine HSm.out.mono ?_
 rintro e w9 ⟨rfl,c9⟩;have hr9:w9.rangeAt w6.heap.size 0 [.int .i64 0,.int .i64 0,.int .i64 3,.int .i64 1,.int .i64 0,.int .i64 4,.int .i64 0,.int .i64 0,.int .i64 0,.int .i64 0,.int .i64 0,.int .i64 1,.int .i64 2,.int .i64 0,.int .i64 0,.int .i64 0,.int .i64 0,.int .i64 0,.int .i64 0,.int .i64 0,.int .i64 0,.int .i64 0,.int .i64 0,.int .i64 0]:=fun j v hj=>c9.cell (hr j v hj) id
 have HT9:=Lib.hid (HTx.out w9 c9)
 have HC10:=Lib.hid (HC9.out.step c9)
 have ql9:=Nat.lt_of_lt_of_le ql c9.size
 have tx1:decide (100<TX.length)=true:=decide_eq_true htl
 have tx2:decide ((100:Int)<(TX.length:Int))=true:=decide_eq_true (by omega)
 clear c9 hr q0 q1 q2 q3 q4 q11 q12 ql HSm HTx HB9;go_wp2_with (first | (refine wpList_load_g (by rfl) _ _ rfl w6.heap.size 0 rfl [.int .i64 0,.int .i64 0,.int .i64 3,.int .i64 1,.int .i64 0,.int .i64 4,.int .i64 0,.int .i64 0,.int .i64 0,.int .i64 0,.int .i64 0,.int .i64 1,.int .i64 2,.int .i64 0,.int .i64 0,.int .i64 0,.int .i64 0,.int .i64 0,.int .i64 0,.int .i64 0,.int .i64 0,.int .i64 0,.int .i64 0,.int .i64 0] _ hr9 Tryz.underlying26 rfl tally_info ?_))
 with_reducible refine HT9.out.mono ?_
 rintro e w10 ⟨rfl,c10⟩;have HC11:=Lib.hid (HC10.out.step c10)
 clear c10 HT9 HC10 hr9;go_wp2_with fail;go_ret;exact ⟨rfl,HC11.out⟩
def numsC (s:List Int):Array Value:=(s.map (Value.int .i64)).toArray
theorem numsC_set (s:List Int) (p:Nat) (x:Int):(numsC s).setIfInBounds p (.int .i64 x)=numsC (s.set p x):=by simp [numsC,List.map_set]
theorem numsC_at {s:List Int} {p:Nat} {x:Int} (hp:s[p]? = some x):(numsC s)[p]? = some (.int .i64 x):=by
 unfold numsC
 simp [hp]
theorem INTi0:(Tryz.prog.info? 3).map (fun i=>(i.zero,i.size,i.bytes))=some (some (.int .i64 0),1,8):=by kernel_rfl
theorem made_numsC (n:Nat):madeCells (Value.int .i64 0).cells (n*1)=numsC (List.replicate n 0):=by
 rw [Nat.mul_one]
 apply Array.ext_getElem?
 intro k;unfold madeCells numsC
 by_cases hk:k<n
 ·simp [Value.cells,hk,Nat.mod_one]
 ·simp [hk]
def cntF (g:FactP→Int) (l:List FactP) (k:Int):Nat:=(l.filter fun f=>g f == k).length
def cntsF (g:FactP→Int) (l:List FactP) (m:Nat):List Int:=(List.range m).map fun k:Nat=>((cntF g l (k:Int):Nat):Int)
theorem cntF_le (g:FactP→Int) (l:List FactP) (k:Int):cntF g l k≤l.length:=List.length_filter_le _ _
theorem cntF_app (g:FactP→Int) (l:List FactP) (f:FactP) (k:Int):cntF g (l ++ [f]) k=cntF g l k+(if g f=k then 1 else 0):=by
 unfold cntF
 rw [List.filter_append,List.length_append]
 congr 1
 by_cases h:g f=k
 ·rw [if_pos h];simp [h]
 ·rw [if_neg h];simp [h]
theorem cntsF_zero (g:FactP→Int) (m:Nat):cntsF g [] m=List.replicate m 0:=by
 unfold cntsF
 apply List.ext_getElem?
 intro i;by_cases h:i<m
 ·simp [h,cntF]
 ·simp [h]
theorem cntsF_at (g:FactP→Int) (l:List FactP) {m k:Nat} (h:k<m):(cntsF g l m)[k]? = some (cntF g l k:Int):=by
 unfold cntsF
 simp [h]
theorem cntsF_in (g:FactP→Int) (l:List FactP) (f:FactP) {m k:Nat} (h:g f=k) (hk:k<m):cntsF g (l ++ [f]) m=(cntsF g l m).set k ((cntF g l k:Int)+1):=by
 apply List.ext_getElem?
 intro i;by_cases hi:i<m
 ·rw [cntsF_at g _ hi,cntF_app]
  by_cases e:k=i
  ·subst e;rw [List.getElem?_set_self (by unfold cntsF;simpa using hk),if_pos h]
   rfl
  ·rw [List.getElem?_set_ne e,cntsF_at g _ hi,if_neg (by omega)]
   rfl
 ·rw [List.getElem?_eq_none (by unfold cntsF;simp;omega),List.getElem?_eq_none (by unfold cntsF;simp;omega)]
theorem cntsF_out (g:FactP→Int) (l:List FactP) (f:FactP) {m:Nat} (h:g f<0∨(m:Int)≤g f):cntsF g (l ++ [f]) m=cntsF g l m:=by
 unfold cntsF
 apply List.map_congr_left
 intro k hk;have:=List.mem_range.1 hk
 rw [cntF_app,if_neg (by omega)]
 rfl
theorem cntsF_len (g:FactP→Int) (l:List FactP) (m:Nat):(cntsF g l m).length=m:=by unfold cntsF;simp
def countedF (g:FactP→Int) (l:List FactP) (n:Int):List Int:=if n<1∨65536<n then [] else cntsF g l n.toNat
theorem take_next {α:Type} {l:List α} {i:Nat} {f:α} (h:l[i]? = some f):l.take (i+1)=l.take i ++ [f]:=by rw [List.take_add_one,h];rfl
theorem pg_g (step node page op rd rs rt im pc cause access addr size old new:Int) (done:Bool) (w:World):Calls Tryz.prog 25 #[.agg #[.int .i64 step,.int .i64 node,.int .i64 page,.bool done,.int .i64 op,.int .i64 rd,.int .i64 rs,.int .i64 rt,.int .i64 im,.int .u64 pc,.int .i64 cause,.int .i64 access,.int .u64 addr,.int .i64 size,.int .u64 old,.int .u64 new]] w (RetW (.int .i64 page) fun w'=>Chg NoB w w'):=by
 have hC:=Lib.hid ((Chg.refl NoB w).alloc (.cells #[.int .i64 step,.int .i64 node,.int .i64 page,.bool done,.int .i64 op,.int .i64 rd,.int .i64 rs,.int .i64 rt,.int .i64 im,.int .u64 pc,.int .i64 cause,.int .i64 access,.int .u64 addr,.int .i64 size,.int .u64 old,.int .u64 new] 71))
 go_enter Tryz.func25,Tryz.ntmps25;go_wp2_with fail;go_ret;exact ⟨rfl,hC.out⟩
theorem nd_g (step node page op rd rs rt im pc cause access addr size old new:Int) (done:Bool) (w:World):Calls Tryz.prog 26 #[.agg #[.int .i64 step,.int .i64 node,.int .i64 page,.bool done,.int .i64 op,.int .i64 rd,.int .i64 rs,.int .i64 rt,.int .i64 im,.int .u64 pc,.int .i64 cause,.int .i64 access,.int .u64 addr,.int .i64 size,.int .u64 old,.int .u64 new]] w (RetW (.int .i64 node) fun w'=>Chg NoB w w'):=by
 have hC:=Lib.hid ((Chg.refl NoB w).alloc (.cells #[.int .i64 step,.int .i64 node,.int .i64 page,.bool done,.int .i64 op,.int .i64 rd,.int .i64 rs,.int .i64 rt,.int .i64 im,.int .u64 pc,.int .i64 cause,.int .i64 access,.int .u64 addr,.int .i64 size,.int .u64 old,.int .u64 new] 71))
 go_enter Tryz.func26,Tryz.ntmps26;go_wp2_with fail;go_ret;exact ⟨rfl,hC.out⟩
theorem counted_g (G:Nat) (g:FactP→Int) (e1:∀args w,(callFunc G args).run Tryz.prog w = .ok (.enter G args) w) (hg:∀(step node page op rd rs rt im:Int) (pc:Nat) (cause access:Int) (addr:Nat) (size:Int) (old new:Nat) (done:Bool) (w:World),Calls Tryz.prog G #[.agg #[.int .i64 step,.int .i64 node,.int .i64 page,.bool done,.int .i64 op,.int .i64 rd,.int .i64 rs,.int .i64 rt,.int .i64 im,.int .u64 pc,.int .i64 cause,.int .i64 access,.int .u64 addr,.int .i64 size,.int .u64 old,.int .u64 new]] w (RetW (.int .i64 (g ⟨step,node,page,⟨done,⟨op,rd,rs,rt,im⟩,pc,cause,access,addr,size,old,new⟩⟩)) fun w'=>Chg NoB w w')) {w:World} (l:List FactP) (S:Nat→Prop) (v:Value) (hs:Sl w S 16 v l.length (fcells l)) (hl:l.length≤100000) (n:Int) (hn:n≤300∨65536<n) :
  Calls Tryz.prog 24 #[v,.int .i64 n,.func (.func G) #[] #[]] w (RetSl fun r w'=>Sl w' (fun k=>w.heap.size≤k) 1 r (countedF g l n).length ((countedF g l n).map (Value.int .i64))∧Chg NoB w w'):=by
 obtain ⟨vp,vc,rfl⟩:=hs.form
 have HS:=Lib.hid hs
 have HGG:=Lib.hid hg
 clear hg;by_cases h0:n<1∨65536<n
 ·have e:countedF g l n = []:=if_pos h0
  have HE:=Lib.hid e
  rcases (by omega:n<1∨(¬n<1∧65536<n)) with h1 | ⟨h1,h2⟩
  ·have t1:decide (n<1)=true:=decide_eq_true h1
   clear h0 h1 hs e hn;go_enter Tryz.func24,Tryz.ntmps24;go_wp2_with fail;go_ret;exact ⟨_,rfl,by rw [HE.out];exact Sl.nil _ _ _,Chg.refl _ _⟩
  ·have t1:decide (n<1)=false:=decide_eq_false h1
   have t2:decide (65536<n)=true:=decide_eq_true h2
   clear h0 h1 h2 hs e hn;go_enter Tryz.func24,Tryz.ntmps24;go_wp2_with fail;go_ret;exact ⟨_,rfl,by rw [HE.out];exact Sl.nil _ _ _,Chg.refl _ _⟩
 ·obtain ⟨m,rfl⟩:=Int.eq_ofNat_of_zero_le (show 0≤n by omega)
  have hm:m≤300:=by omega
  have e:countedF g l m=cntsF g l m:=if_neg h0
  have HE:=Lib.hid e
  have t1:decide ((m:Int)<1)=false:=decide_eq_false (by omega)
  have t2:decide ((65536:Int)<m)=false:=decide_eq_false (by omega)
  have t1':decide (m<1)=false:=decide_eq_false (by omega)
  have t2':decide (65536<m)=false:=decide_eq_false (by omega)
  obtain ⟨j0,hj0,hz0,hz1,hz2⟩:=info_parts INTi0
  have hmk:∀W,(Instr.makeSlice 30 (.int .i64 (m:Int)) (.int .i64 (m:Int))).run Tryz.prog W = .ok (.slice (some ⟨W.heap.size,0,none⟩) m m) (W.alloc (.cells (numsC (List.replicate m 0)) 3)):=by
   intro W;have h:=run_make (P:=Tryz.prog) W 30 3 j0 _ Tryz.underlying30 hj0 hz0 .i64 .i64 (m:Int) (m:Int) (by omega) (by omega) (by rw [hz2];omega) (by omega)
   rw [hz1,Int.toNat_natCast,made_numsC] at h
   exact h
  have HB0:=Lib.hid (Blk.new w (numsC (List.replicate m 0)) 3)
  have HC0:=Lib.hid ((Chg.refl NoB w).alloc (.cells (numsC (List.replicate m 0)) 3))
  have HM:=Lib.hid (And.intro hm hl)
  clear h0 hs e hj0 hz0 hz1 hz2 hn;go_enter Tryz.func24,Tryz.ntmps24;go_wp2_with fail;clear hmk;generalize w.alloc (.cells (numsC (List.replicate m 0)) 3)=w0 at *;obtain ⟨ob,hob⟩:∃b,w.heap.size=b:=⟨_,rfl⟩
  rw [hob] at HB0
  simp only [hob]
  have HOB:=Lib.hid hob
  clear hob;go_loopg [21] l.length (fun k iv wr=>∃i:Nat,iv = .int .i64 i∧i≤l.length∧k=l.length - i∧Blk wr ob (numsC (cntsF g (l.take i) m)) 3∧Chg NoB w wr)
  case atStart=>exact ⟨0,rfl,by omega,by omega,by rw [List.take_zero,cntsF_zero];exact HB0.out,HC0.out⟩
  case round=>
   obtain ⟨i,rfl,hin,hk,hB,hC⟩:=hrel
   have HK:=Lib.hid hk
   have HB:=Lib.hid hB
   have HC:=Lib.hid hC
   clear hk hB;by_cases hi:i<l.length
   ·have t3:decide ((i:Int)<l.length)=true:=decide_eq_true (by omega)
    have t4:decide (i<l.length)=true:=decide_eq_true hi
    obtain ⟨f,hf⟩:∃f,l[i]? = some f:=⟨l[i]'hi,List.getElem?_eq_getElem _⟩
    have HT:=Lib.hid (take_next hf)
    obtain ⟨-,p,c,hv,hnc,hr⟩:=HS.out
    cases hv
    obtain ⟨gb,off,rfl,hgS,hgl,hcell⟩:=hr (by omega)
    have hx:∀j,j<16→∀u,f.vs[j]? = some u→wr.cell? ⟨gb,off+(i*16+j),none⟩=some u:=fun j hj u hu=>HC.out.cell (hcell (i*16+j) u ((fcells_get l i j f hf hj).trans hu)) id
    obtain ⟨x,hgx⟩:∃x,g f=x:=⟨_,rfl⟩
    obtain ⟨step,node,page,⟨done,⟨op,rd,rs,rt,im⟩,pc,cause,access,addr,size,old,new⟩⟩:=f
    have HGX:=Lib.hid hgx
    have x0:wr.cell? ⟨gb,off+i*16,none⟩=some (.int .i64 step):=(congrArg (fun o=>wr.cell? ⟨gb,o,none⟩) (by omega)).trans (hx 0 (by decide) _ rfl)
    have x1:wr.cell? ⟨gb,off+i*16+1,none⟩=some (.int .i64 node):=(congrArg (fun o=>wr.cell? ⟨gb,o,none⟩) (by omega)).trans (hx 1 (by decide) _ rfl)
    have x2:wr.cell? ⟨gb,off+i*16+2,none⟩=some (.int .i64 page):=(congrArg (fun o=>wr.cell? ⟨gb,o,none⟩) (by omega)).trans (hx 2 (by decide) _ rfl)
    have x3:wr.cell? ⟨gb,off+i*16+3,none⟩=some (.bool done):=(congrArg (fun o=>wr.cell? ⟨gb,o,none⟩) (by omega)).trans (hx 3 (by decide) _ rfl)
    have x4:wr.cell? ⟨gb,off+i*16+4,none⟩=some (.int .i64 op):=(congrArg (fun o=>wr.cell? ⟨gb,o,none⟩) (by omega)).trans (hx 4 (by decide) _ rfl)
    have x5:wr.cell? ⟨gb,off+i*16+5,none⟩=some (.int .i64 rd):=(congrArg (fun o=>wr.cell? ⟨gb,o,none⟩) (by omega)).trans (hx 5 (by decide) _ rfl)
    have x6:wr.cell? ⟨gb,off+i*16+6,none⟩=some (.int .i64 rs):=(congrArg (fun o=>wr.cell? ⟨gb,o,none⟩) (by omega)).trans (hx 6 (by decide) _ rfl)
    have x7:wr.cell? ⟨gb,off+i*16+7,none⟩=some (.int .i64 rt):=(congrArg (fun o=>wr.cell? ⟨gb,o,none⟩) (by omega)).trans (hx 7 (by decide) _ rfl)
    have x8:wr.cell? ⟨gb,off+i*16+8,none⟩=some (.int .i64 im):=(congrArg (fun o=>wr.cell? ⟨gb,o,none⟩) (by omega)).trans (hx 8 (by decide) _ rfl)
    have x9:wr.cell? ⟨gb,off+i*16+9,none⟩=some (.int .u64 pc):=(congrArg (fun o=>wr.cell? ⟨gb,o,none⟩) (by omega)).trans (hx 9 (by decide) _ rfl)
    have x10:wr.cell? ⟨gb,off+i*16+10,none⟩=some (.int .i64 cause):=(congrArg (fun o=>wr.cell? ⟨gb,o,none⟩) (by omega)).trans (hx 10 (by decide) _ rfl)
    have x11:wr.cell? ⟨gb,off+i*16+11,none⟩=some (.int .i64 access):=(congrArg (fun o=>wr.cell? ⟨gb,o,none⟩) (by omega)).trans (hx 11 (by decide) _ rfl)
    have x12:wr.cell? ⟨gb,off+i*16+12,none⟩=some (.int .u64 addr):=(congrArg (fun o=>wr.cell? ⟨gb,o,none⟩) (by omega)).trans (hx 12 (by decide) _ rfl)
    have x13:wr.cell? ⟨gb,off+i*16+13,none⟩=some (.int .i64 size):=(congrArg (fun o=>wr.cell? ⟨gb,o,none⟩) (by omega)).trans (hx 13 (by decide) _ rfl)
    have x14:wr.cell? ⟨gb,off+i*16+14,none⟩=some (.int .u64 old):=(congrArg (fun o=>wr.cell? ⟨gb,o,none⟩) (by omega)).trans (hx 14 (by decide) _ rfl)
    have x15:wr.cell? ⟨gb,off+i*16+15,none⟩=some (.int .u64 new):=(congrArg (fun o=>wr.cell? ⟨gb,o,none⟩) (by omega)).trans (hx 15 (by decide) _ rfl)
    have hbl:=Nat.lt_of_lt_of_le hgl HC.out.size
    have HC1:=Lib.hid (HC.out.alloc (.cells #[.int .i64 step,.int .i64 node,.int .i64 page,.bool done,.int .i64 op,.int .i64 rd,.int .i64 rs,.int .i64 rt,.int .i64 im,.int .u64 pc,.int .i64 cause,.int .i64 access,.int .u64 addr,.int .i64 size,.int .u64 old,.int .u64 new] 71))
    have HB1:=Lib.hid (HB.out.alloc (.cells #[.int .i64 step,.int .i64 node,.int .i64 page,.bool done,.int .i64 op,.int .i64 rd,.int .i64 rs,.int .i64 rt,.int .i64 im,.int .u64 pc,.int .i64 cause,.int .i64 access,.int .u64 addr,.int .i64 size,.int .u64 old,.int .u64 new] 71))
    have HG:=HGG.out step node page op rd rs rt im pc cause access addr size old new done (wr.alloc (.cells #[.int .i64 step,.int .i64 node,.int .i64 page,.bool done,.int .i64 op,.int .i64 rd,.int .i64 rs,.int .i64 rt,.int .i64 im,.int .u64 pc,.int .i64 cause,.int .i64 access,.int .u64 addr,.int .i64 size,.int .u64 old,.int .u64 new] 71))
    rw [hgx] at HG
    replace HG:=Lib.hid HG
    clear hx hr hcell hC hgx;go_wp2_with fail;refine HG.out.mono ?_
    rintro e w2 ⟨rfl,C2⟩;have HC2:=Lib.hid (HC1.out.step C2)
    have HB2:=Lib.hid (C2.blk0 HB1.out)
    clear x0 x1 x2 x3 x4 x5 x6 x7 x8 x9 x10 x11 x12 x13 x14 x15 hbl C2;by_cases hq:0≤x∧x<m
    ·obtain ⟨q,hqe⟩:=Int.eq_ofNat_of_zero_le hq.1
     have hqm:q<m:=by omega
     have HX:Hid (cntsF g (l.take (i+1)) m=(cntsF g (l.take i) m).set q ((cntF g (l.take i) q:Int)+1)):=Lib.hid (by rw [HT.out];exact cntsF_in g _ _ (HGX.out.trans hqe) hqm)
     have hcl:cntF g (l.take i) q≤i:=Nat.le_trans (cntF_le _ _ _) (by rw [List.length_take];omega)
     obtain ⟨cq,hcq⟩:∃c,cntF g (l.take i) (q:Int)=c:=⟨_,rfl⟩
     rw [hcq] at HX hcl
     have b0:=HB2.out.cell' (i:=q) (v:=.int .i64 cq) (numsC_at (by rw [←hcq];exact cntsF_at _ _ hqm))
     have bz:=HB2.out.frozen q
     have bl:=HB2.out.lt
     have t5:decide ((0:Int)≤q)=true:=decide_eq_true (by omega)
     have t6:decide ((q:Int)<m)=true:=decide_eq_true (by omega)
     have t6':decide (q<m)=true:=decide_eq_true hqm
     have q1:wrap64 ((cq:Int)+1)=(cq:Int)+1:=IntWalk.wrap64_in _ (by have:=HM.out.2;omega)
     have HB3:Hid (Blk (w2.setCell ⟨ob,q,none⟩ (.int .i64 ((cq:Int)+1))) ob (numsC (cntsF g (l.take (i+1)) m)) 3):=Lib.hid (by rw [HX.out,←numsC_set];exact HB2.out.set q _)
     have HC3:Hid (Chg NoB w (w2.setCell ⟨ob,q,none⟩ (.int .i64 ((cq:Int)+1)))):=Lib.hid (HC2.out.setCell (a:=⟨ob,q,none⟩) (.inr (by rw [HOB.out];exact Nat.le_refl _)) _)
     subst hqe;clear hq hcq hcl;go_wp2_with fail;go_roundg (l.length - (i+1))
     case rel=>exact ⟨i+1,by go_num,by omega,rfl,HB3.out,HC3.out⟩
     case measure=>rw [HK.out];omega
    ·have HX:Hid (cntsF g (l.take (i+1)) m=cntsF g (l.take i) m):=Lib.hid (by rw [HT.out];exact cntsF_out g _ _ (by rw [HGX.out];omega))
     have HB3:Hid (Blk w2 ob (numsC (cntsF g (l.take (i+1)) m)) 3):=Lib.hid (by rw [HX.out];exact HB2.out)
     by_cases hq0:0≤x
     ·have t5:decide (0≤x)=true:=decide_eq_true hq0
      have t6:decide (x<(m:Int))=false:=decide_eq_false (by omega)
      clear hq hq0;go_wp2_with fail;go_roundg (l.length - (i+1))
      case rel=>exact ⟨i+1,by go_num,by omega,rfl,HB3.out,HC2.out⟩
      case measure=>rw [HK.out];omega
     ·have t5:decide (0≤x)=false:=decide_eq_false hq0
      clear hq hq0;go_wp2_with fail;go_roundg (l.length - (i+1))
      case rel=>exact ⟨i+1,by go_num,by omega,rfl,HB3.out,HC2.out⟩
      case measure=>rw [HK.out];omega
   ·have t3:decide ((i:Int)<l.length)=false:=decide_eq_false (by omega)
    have t4:decide (i<l.length)=false:=decide_eq_false hi
    obtain rfl:i=l.length:=by omega
    clear hC;go_wp2_with fail;go_ret;refine ⟨_,rfl,?_,HC.out⟩
    have hb:=HB.out
    rw [List.take_length] at hb
    have hs1:Sl wr (fun k=>w.heap.size≤k) 1 (.slice (some ⟨ob,0,none⟩) m m) m ((cntsF g l m).map (Value.int .i64)):=Sl.of (by rw [List.length_map,cntsF_len,Nat.mul_one]) (Nat.le_refl _) (by rw [HOB.out];exact Nat.le_refl _) hb.lt (fun j u hu=>by
     rw [Nat.zero_add]
     exact hb.cell' (by unfold numsC;simpa using hu))
    have hs2:Sl wr (fun k=>w.heap.size≤k) 1 (.slice (some ⟨ob,0,none⟩) m m) (countedF g l m).length ((countedF g l m).map (Value.int .i64)):=by
     rw [HE.out,cntsF_len];exact hs1
    exact hs2
theorem mPages_any {w:World} (l:List FactP) (S:Nat→Prop) (v:Value) (hs:Sl w S 16 v l.length (fcells l)) (hl:l.length≤100000) (n:Int) (hn:n≤300∨65536<n) :
  Calls Tryz.prog 11 #[v,.int .i64 n] w (RetSl fun r w'=>Sl w' (fun k=>w.heap.size≤k) 1 r (countedF FactP.page l n).length ((countedF FactP.page l n).map (Value.int .i64))∧Chg NoB w w'):=by
 have HH:=Lib.hid ((counted_g 25 FactP.page (enters_of Tryz.func25 (by kernel_rfl) rfl) fun a b c d e f g h i j k l m n o p q=>pg_g a b c d e f g h i j k l m n o p q) l S v hs hl n hn)
 obtain ⟨vp,vc,rfl⟩:=hs.form
 clear hs;go_enter Tryz.func11,Tryz.ntmps11;go_wp2_with fail;refine HH.out.mono ?_
 rintro e w1 ⟨r,rfl,hS,hC⟩;have HX:=Lib.hid (And.intro hS hC)
 obtain ⟨rp,rc,rfl⟩:=hS.form
 clear hS hC;go_wp2_with fail;go_ret;exact ⟨_,rfl,HX.out⟩
theorem mNodes_any {w:World} (l:List FactP) (S:Nat→Prop) (v:Value) (hs:Sl w S 16 v l.length (fcells l)) (hl:l.length≤100000) (n:Int) (hn:n≤300∨65536<n) :
  Calls Tryz.prog 12 #[v,.int .i64 n] w (RetSl fun r w'=>Sl w' (fun k=>w.heap.size≤k) 1 r (countedF FactP.node l n).length ((countedF FactP.node l n).map (Value.int .i64))∧Chg NoB w w'):=by
 have HH:=Lib.hid ((counted_g 26 FactP.node (enters_of Tryz.func26 (by kernel_rfl) rfl) fun a b c d e f g h i j k l m n o p q=>nd_g a b c d e f g h i j k l m n o p q) l S v hs hl n hn)
 obtain ⟨vp,vc,rfl⟩:=hs.form
 clear hs;go_enter Tryz.func12,Tryz.ntmps12;go_wp2_with fail;refine HH.out.mono ?_
 rintro e w1 ⟨r,rfl,hS,hC⟩;have HX:=Lib.hid (And.intro hS hC)
 obtain ⟨rp,rc,rfl⟩:=hS.form
 clear hS hC;go_wp2_with fail;go_ret;exact ⟨_,rfl,HX.out⟩
theorem same_eq {w:World} (l:List Int) (Sa Sb:Nat→Prop) (a b:Value) (ha:Sl w Sa 1 a l.length (l.map (Value.int .i64))) (hb:Sl w Sb 1 b l.length (l.map (Value.int .i64))) (hl:l.length≤100000) :
  Calls Tryz.prog 13 #[a,b] w (RetW (.bool true) fun w'=>Chg NoB w w'):=by
 obtain ⟨-,ap,ac,rfl,-,hra⟩:=ha
 obtain ⟨-,bp,bc,rfl,-,hrb⟩:=hb
 have HA:=Lib.hid hra
 have HB:=Lib.hid hrb
 have t0:((l.length:Int) != (l.length:Int))=false:=by simp
 clear hra hrb;go_enter Tryz.func13,Tryz.ntmps13;go_wp2_with fail;go_loopg [13] l.length (fun k iv wr=>∃i:Nat,iv = .int .i64 i∧i≤l.length∧k=l.length - i∧Chg NoB w wr)
 case atStart=>exact ⟨0,rfl,by omega,by omega,Chg.refl _ _⟩
 case round=>
  obtain ⟨i,rfl,hin,hk,hC⟩:=hrel
  have HK:=Lib.hid hk
  have HC:=Lib.hid hC
  clear hk hC;by_cases hi:i<l.length
  ·have t1:decide ((i:Int)<l.length)=true:=decide_eq_true (by omega)
   have t2:decide (i<l.length)=true:=decide_eq_true hi
   obtain ⟨x,hx⟩:∃x,l[i]? = some x:=⟨l[i]'hi,List.getElem?_eq_getElem _⟩
   obtain ⟨g1,o1,rfl,-,l1,h1⟩:=HA.out (by omega)
   obtain ⟨g2,o2,rfl,-,l2,h2⟩:=HB.out (by omega)
   have x1:∀w',Chg NoB wr w'→w'.cell? ⟨g1,o1+i,none⟩=some (.int .i64 x):=fun w' c=>(HC.out.step c).cell (h1 i _ (by rw [List.getElem?_map,hx];rfl)) id
   have x2:∀w',Chg NoB wr w'→w'.cell? ⟨g2,o2+i,none⟩=some (.int .i64 x):=fun w' c=>(HC.out.step c).cell (h2 i _ (by rw [List.getElem?_map,hx];rfl)) id
   have y1:∀w',Chg NoB wr w'→g1<w'.heap.size:=fun w' c=>Nat.lt_of_lt_of_le l1 (HC.out.step c).size
   have y2:∀w',Chg NoB wr w'→g2<w'.heap.size:=fun w' c=>Nat.lt_of_lt_of_le l2 (HC.out.step c).size
   have cc:=Chg.refl NoB wr
   have hne:(x != x)=false:=by simp
   clear h1 h2 l1 l2 hx;go_upto_region 6 with fail;refine wp_region_mix 8 [(true,0),(true,1),(true,2),(true,3),(true,4),(true,5),(true,6),(true,7)] (fun w'=>Chg NoB wr w') (by kernel_rfl) (by kernel_rfl) (fun _ _ _ _ _ h=>h) (cc.drew) ?_
   simp only [pickMix_nil,pickMix_cons,Option.getD_some,List.getElem?_toArray,List.getElem?_cons_zero,List.getElem?_cons_succ,List.cons_append,List.nil_append,List.drop_succ_cons,List.drop_zero]
   iterate 8
    refine wpMix_take rfl ?_;apply Exists.intro;refine ⟨fun wS hS=>?_,?_⟩
    ·try dsimp only at hS
     have cS:=hS
     go_simp;try rfl
    simp only [Act.put,List.setIfInBounds_toArray,List.set_cons_zero,List.set_cons_succ]
   refine wpMix_nil ?_
   go_wp2_with fail;go_roundg (l.length - (i+1))
   case rel=>exact ⟨i+1,by go_num,by omega,rfl,HC.out.then0 cc.drew⟩
   case measure=>rw [HK.out];omega
  ·have t1:decide ((i:Int)<l.length)=false:=decide_eq_false (by omega)
   have t2:decide (i<l.length)=false:=decide_eq_false hi
   go_wp2_with fail;go_ret;exact ⟨rfl,HC.out⟩
theorem rOf_page {w:World} (l:List FactP) (S:Nat→Prop) (v:Value) (hs:Sl w S 16 v l.length (fcells l)) (hl:l.length≤100000) (n:Int) (hn:n≤300∨65536<n) :
  Calls Tryz.prog 14 #[v,.int .i64 n,.bool true] w (RetSl fun r w'=>Sl w' (fun k=>w.heap.size≤k) 1 r (countedF FactP.page l n).length ((countedF FactP.page l n).map (Value.int .i64))∧Chg NoB w w'):=by
 obtain ⟨vp,vc,rfl⟩:=hs.form
 have HS:=Lib.hid hs
 have HL:=Lib.hid hl
 by_cases h0:n<1∨65536<n
 ·have HE:=Lib.hid (show countedF FactP.page l n = [] from if_pos h0)
  have hfin:∀b1 b2:Bool,b1=decide ((0:Int)<n)→b2=decide (n≤65536)→(b1 && b2)=false:=by
   rintro _ _ rfl rfl;rcases h0 with h | h
   ·rw [decide_eq_false (by omega)];rfl
   ·rw [decide_eq_false (by omega:¬n≤65536),Bool.and_false]
  obtain ⟨b1,h1⟩:∃b,decide ((0:Int)<n)=b:=⟨_,rfl⟩
  obtain ⟨b2,h2⟩:∃b,decide (n≤65536)=b:=⟨_,rfl⟩
  have hf:=hfin b1 b2 h1.symm h2.symm
  clear h0 hs hfin hn;go_enter Tryz.func14,Tryz.ntmps14;go_wp2_with fail;go_loopg [8,7] 0 (fun k iv ov wr=>iv = .int .i64 0∧ov = .slice none 0 0∧wr=w)
  case atStart=>exact ⟨rfl,rfl,rfl⟩
  case round=>
   obtain ⟨rfl,rfl,hwr⟩:=hrel
   rename World=>wr;subst hwr;cases b1 with
   | true=>
    have hf:b2=false:=by simpa using hf
    subst hf;go_wp2_with fail;go_ret;exact ⟨_,rfl,by rw [HE.out];exact Sl.nil _ _ _,Chg.refl _ _⟩
   | false=>
    go_wp2_with fail;go_ret;exact ⟨_,rfl,by rw [HE.out];exact Sl.nil _ _ _,Chg.refl _ _⟩
 ·obtain ⟨m,rfl⟩:=Int.eq_ofNat_of_zero_le (show 0≤n by omega)
  have hm:m≤300:=by omega
  have HE:=Lib.hid (show countedF FactP.page l m=cntsF FactP.page l m from if_neg h0)
  have HM:=Lib.hid hm
  have t2:decide ((m:Int)≤65536)=true:=decide_eq_true (by omega)
  have t2':decide (m≤65536)=true:=decide_eq_true (by omega)
  clear h0 hs hn;go_enter Tryz.func14,Tryz.ntmps14;go_wp2_with fail;go_loopg [8,7] m (fun k iv ov wr=>∃q:Nat,iv = .int .i64 q∧q≤m∧k=m - q∧Own wr (fun k=>w.heap.size≤k) 3 1 ov q ((cntsF FactP.page l q).map (Value.int .i64))∧Chg NoB w wr)
  case atStart=>exact ⟨0,rfl,by omega,by omega,Own.nil _ _ _ _,Chg.refl _ _⟩
  case round=>
   obtain ⟨q,rfl,hqm,hk,hO,hC⟩:=hrel
   obtain ⟨op,oc,rfl⟩:=hO.form
   have HK:=Lib.hid hk
   have HO:=Lib.hid hO
   have HC:=Lib.hid hC
   clear hk hO hC;by_cases hq:q<m
   ·have t3:decide ((q:Int)<m)=true:=decide_eq_true (by omega)
    have t3':decide (q<m)=true:=decide_eq_true hq
    go_wp2_with fail;go_loopg [23,9] l.length (fun k iv cv wx=>∃i:Nat,iv = .int .i64 i∧i≤l.length∧k=l.length - i∧cv = .int .i64 (cntF FactP.page (l.take i) q)∧Chg NoB wr wx)
    case atStart=>exact ⟨0,rfl,by omega,by omega,rfl,Chg.refl _ _⟩
    case round=>
     obtain ⟨i,rfl,hin,hki,rfl,hCi⟩:=hrel
     rename World=>wx;have HKI:=Lib.hid hki
     have HCI:=Lib.hid hCi
     clear hki hCi;by_cases hi:i<l.length
     ·have t4:decide ((i:Int)<l.length)=true:=decide_eq_true (by omega)
      have t4':decide (i<l.length)=true:=decide_eq_true hi
      obtain ⟨f,hf⟩:∃f,l[i]? = some f:=⟨l[i]'hi,List.getElem?_eq_getElem _⟩
      have HT:=Lib.hid (take_next hf)
      obtain ⟨-,p,c,hv,hnc,hr⟩:=HS.out
      cases hv
      obtain ⟨gb,off,rfl,hgS,hgl,hcell⟩:=hr (by omega)
      have hx:∀j,j<16→∀u,f.vs[j]? = some u→wx.cell? ⟨gb,off+(i*16+j),none⟩=some u:=fun j hj u hu=>(HC.out.step HCI.out).cell (hcell (i*16+j) u ((fcells_get l i j f hf hj).trans hu)) id
      have hci:cntF FactP.page (l.take i) q≤i:=Nat.le_trans (cntF_le _ _ _) (by rw [List.length_take];omega)
      have hap:=cntF_app FactP.page (l.take i) f q
      obtain ⟨ci,hce⟩:∃c,cntF FactP.page (l.take i) (q:Int)=c:=⟨_,rfl⟩
      rw [hce] at hci hap
      simp only [hce]
      obtain ⟨step,node,page,⟨done,⟨op,rd,rs,rt,im⟩,pc,cause,access,addr,size,old,new⟩⟩:=f
      have x0:wx.cell? ⟨gb,off+i*16,none⟩=some (.int .i64 step):=(congrArg (fun o=>wx.cell? ⟨gb,o,none⟩) (by omega)).trans (hx 0 (by decide) _ rfl)
      have x1:wx.cell? ⟨gb,off+i*16+1,none⟩=some (.int .i64 node):=(congrArg (fun o=>wx.cell? ⟨gb,o,none⟩) (by omega)).trans (hx 1 (by decide) _ rfl)
      have x2:wx.cell? ⟨gb,off+i*16+2,none⟩=some (.int .i64 page):=(congrArg (fun o=>wx.cell? ⟨gb,o,none⟩) (by omega)).trans (hx 2 (by decide) _ rfl)
      have x3:wx.cell? ⟨gb,off+i*16+3,none⟩=some (.bool done):=(congrArg (fun o=>wx.cell? ⟨gb,o,none⟩) (by omega)).trans (hx 3 (by decide) _ rfl)
      have x4:wx.cell? ⟨gb,off+i*16+4,none⟩=some (.int .i64 op):=(congrArg (fun o=>wx.cell? ⟨gb,o,none⟩) (by omega)).trans (hx 4 (by decide) _ rfl)
      have x5:wx.cell? ⟨gb,off+i*16+5,none⟩=some (.int .i64 rd):=(congrArg (fun o=>wx.cell? ⟨gb,o,none⟩) (by omega)).trans (hx 5 (by decide) _ rfl)
      have x6:wx.cell? ⟨gb,off+i*16+6,none⟩=some (.int .i64 rs):=(congrArg (fun o=>wx.cell? ⟨gb,o,none⟩) (by omega)).trans (hx 6 (by decide) _ rfl)
      have x7:wx.cell? ⟨gb,off+i*16+7,none⟩=some (.int .i64 rt):=(congrArg (fun o=>wx.cell? ⟨gb,o,none⟩) (by omega)).trans (hx 7 (by decide) _ rfl)
      have x8:wx.cell? ⟨gb,off+i*16+8,none⟩=some (.int .i64 im):=(congrArg (fun o=>wx.cell? ⟨gb,o,none⟩) (by omega)).trans (hx 8 (by decide) _ rfl)
      have x9:wx.cell? ⟨gb,off+i*16+9,none⟩=some (.int .u64 pc):=(congrArg (fun o=>wx.cell? ⟨gb,o,none⟩) (by omega)).trans (hx 9 (by decide) _ rfl)
      have x10:wx.cell? ⟨gb,off+i*16+10,none⟩=some (.int .i64 cause):=(congrArg (fun o=>wx.cell? ⟨gb,o,none⟩) (by omega)).trans (hx 10 (by decide) _ rfl)
      have x11:wx.cell? ⟨gb,off+i*16+11,none⟩=some (.int .i64 access):=(congrArg (fun o=>wx.cell? ⟨gb,o,none⟩) (by omega)).trans (hx 11 (by decide) _ rfl)
      have x12:wx.cell? ⟨gb,off+i*16+12,none⟩=some (.int .u64 addr):=(congrArg (fun o=>wx.cell? ⟨gb,o,none⟩) (by omega)).trans (hx 12 (by decide) _ rfl)
      have x13:wx.cell? ⟨gb,off+i*16+13,none⟩=some (.int .i64 size):=(congrArg (fun o=>wx.cell? ⟨gb,o,none⟩) (by omega)).trans (hx 13 (by decide) _ rfl)
      have x14:wx.cell? ⟨gb,off+i*16+14,none⟩=some (.int .u64 old):=(congrArg (fun o=>wx.cell? ⟨gb,o,none⟩) (by omega)).trans (hx 14 (by decide) _ rfl)
      have x15:wx.cell? ⟨gb,off+i*16+15,none⟩=some (.int .u64 new):=(congrArg (fun o=>wx.cell? ⟨gb,o,none⟩) (by omega)).trans (hx 15 (by decide) _ rfl)
      have hbl:=Nat.lt_of_lt_of_le hgl (HC.out.step HCI.out).size
      have HC1:=Lib.hid (HCI.out.alloc (.cells #[.int .i64 step,.int .i64 node,.int .i64 page,.bool done,.int .i64 op,.int .i64 rd,.int .i64 rs,.int .i64 rt,.int .i64 im,.int .u64 pc,.int .i64 cause,.int .i64 access,.int .u64 addr,.int .i64 size,.int .u64 old,.int .u64 new] 71))
      have q1:wrap64 ((ci:Int)+1)=((ci+1:Nat):Int):=by rw [IntWalk.wrap64_in _ (by have:=HL.out;omega)];rfl
      by_cases he:page=(q:Int)
      ·have HX:Hid (cntF FactP.page (l.take (i+1)) q=ci+1):=Lib.hid (by rw [HT.out,hap,if_pos he])
       have e1:(page == (q:Int))=true:=by rw [he];simp
       have e2:decide (page=(q:Int))=true:=decide_eq_true he
       clear hx hr hcell hap he hce;go_wp2_with fail;go_roundg (l.length - (i+1))
       case rel=>exact ⟨i+1,by go_num,by omega,rfl,by rw [HX.out];go_num,HC1.out⟩
       case measure=>rw [HKI.out];omega
      ·have HX:Hid (cntF FactP.page (l.take (i+1)) q=ci):=Lib.hid (by rw [HT.out,hap,if_neg he];rfl)
       have e1:(page == (q:Int))=false:=by simpa using he
       have e2:decide (page=(q:Int))=false:=decide_eq_false he
       clear hx hr hcell hap he hce;go_wp2_with fail;go_roundg (l.length - (i+1))
       case rel=>exact ⟨i+1,by go_num,by omega,rfl,by rw [HX.out],HC1.out⟩
       case measure=>rw [HKI.out];omega
     ·have t4:decide ((i:Int)<l.length)=false:=decide_eq_false (by omega)
      have t4':decide (i<l.length)=false:=decide_eq_false hi
      obtain rfl:i=l.length:=by omega
      rw [List.take_length]
      obtain ⟨cq,hcq⟩:∃c,cntF FactP.page l (q:Int)=c:=⟨_,rfl⟩
      simp only [hcq]
      have HCQ:=Lib.hid hcq
      have hO:=HO.out.chg0 HCI.out
      have oX:=Lib.hid (hO.chg0 ((Chg.refl NoB wx).alloc (.cells #[.int .i64 cq] 3)))
      have sX:=Lib.hid (Sl.fresh wx [.int .i64 cq] 3 1 (size:=1) rfl)
      obtain ⟨i0,hi0,hz0,hz1,hz2⟩:=info_parts INTi0
      have one:∀u∈[Value.int .i64 cq],u.oneCell'=true:=by simp [Value.oneCell']
      have b1:q+1≤maxLen:=by have:=HM.out;unfold maxLen;omega
      have b2:(q+1)*8≤140737488355328:=by have:=HM.out;omega
      clear hO hcq;go_wp2_with (at_builtin;go_must (refine wpList_app rfl _ _ 30 rfl i0 _ 8 Tryz.underlying30 hi0 hz0 hz1 hz2 rfl rfl oX.out _ 1 _ rfl sX.out one b1 b2 ?_))
      intro v' w5 ho5 hg5 hn5;have hC5:=grown_chg (S:=fun k=>w.heap.size≤k) hg5 fun k hk=>(oX.out.ownBlock k hk).1
      have HC5:Hid (Chg NoB w w5):=Lib.hid ((HC.out.step (HCI.out.alloc (.cells #[.int .i64 cq] 3))).trans hC5 fun k hk e=>by omega)
      have HO5:Hid (Own w5 (fun k=>w.heap.size≤k) 3 1 v' (q+1) ((cntsF FactP.page l (q+1)).map (Value.int .i64))):=Lib.hid (by
       have e:(cntsF FactP.page l (q+1)).map (Value.int .i64)=(cntsF FactP.page l q).map (Value.int .i64) ++ [.int .i64 cq]:=by
        unfold cntsF
        rw [List.range_succ,List.map_append,List.map_append]
        simp only [List.map_cons,List.map_nil,HCQ.out]
       rw [e]
       exact ho5.mono fun k hk=>hk.elim (fun hk=>(oX.out.ownBlock k hk).1) fun hk=>by
        have:=(HC.out.step HCI.out).size
        rw [hk];omega)
      obtain ⟨yp,yc,rfl⟩:=ho5.form
      clear hi0 hz0 hz1 hz2 one b1 b2 ho5 hg5 hn5 oX sX hC5;go_wp2_with fail;go_roundg (m - (q+1))
      case rel=>exact ⟨q+1,by go_num,by omega,rfl,HO5.out,HC5.out⟩
      case measure=>rw [HK.out];omega
   ·have t3:decide ((q:Int)<m)=false:=decide_eq_false (by omega)
    have t3':decide (q<m)=false:=decide_eq_false hq
    obtain rfl:q=m:=by omega
    go_wp2_with fail;go_ret;exact ⟨_,rfl,by rw [HE.out,cntsF_len];exact HO.out.sl,HC.out⟩
theorem rOf_node {w:World} (l:List FactP) (S:Nat→Prop) (v:Value) (hs:Sl w S 16 v l.length (fcells l)) (hl:l.length≤100000) (n:Int) (hn:n≤300∨65536<n) :
  Calls Tryz.prog 14 #[v,.int .i64 n,.bool false] w (RetSl fun r w'=>Sl w' (fun k=>w.heap.size≤k) 1 r (countedF FactP.node l n).length ((countedF FactP.node l n).map (Value.int .i64))∧Chg NoB w w'):=by
 obtain ⟨vp,vc,rfl⟩:=hs.form
 have HS:=Lib.hid hs
 have HL:=Lib.hid hl
 by_cases h0:n<1∨65536<n
 ·have HE:=Lib.hid (show countedF FactP.node l n = [] from if_pos h0)
  have hfin:∀b1 b2:Bool,b1=decide ((0:Int)<n)→b2=decide (n≤65536)→(b1 && b2)=false:=by
   rintro _ _ rfl rfl;rcases h0 with h | h
   ·rw [decide_eq_false (by omega)];rfl
   ·rw [decide_eq_false (by omega:¬n≤65536),Bool.and_false]
  obtain ⟨b1,h1⟩:∃b,decide ((0:Int)<n)=b:=⟨_,rfl⟩
  obtain ⟨b2,h2⟩:∃b,decide (n≤65536)=b:=⟨_,rfl⟩
  have hf:=hfin b1 b2 h1.symm h2.symm
  clear h0 hs hfin hn;go_enter Tryz.func14,Tryz.ntmps14;go_wp2_with fail;go_loopg [8,7] 0 (fun k iv ov wr=>iv = .int .i64 0∧ov = .slice none 0 0∧wr=w)
  case atStart=>exact ⟨rfl,rfl,rfl⟩
  case round=>
   obtain ⟨rfl,rfl,hwr⟩:=hrel
   rename World=>wr;subst hwr;cases b1 with
   | true=>
    have hf:b2=false:=by simpa using hf
    subst hf;go_wp2_with fail;go_ret;exact ⟨_,rfl,by rw [HE.out];exact Sl.nil _ _ _,Chg.refl _ _⟩
   | false=>
    go_wp2_with fail;go_ret;exact ⟨_,rfl,by rw [HE.out];exact Sl.nil _ _ _,Chg.refl _ _⟩
 ·obtain ⟨m,rfl⟩:=Int.eq_ofNat_of_zero_le (show 0≤n by omega)
  have hm:m≤300:=by omega
  have HE:=Lib.hid (show countedF FactP.node l m=cntsF FactP.node l m from if_neg h0)
  have HM:=Lib.hid hm
  have t2:decide ((m:Int)≤65536)=true:=decide_eq_true (by omega)
  have t2':decide (m≤65536)=true:=decide_eq_true (by omega)
  clear h0 hs hn;go_enter Tryz.func14,Tryz.ntmps14;go_wp2_with fail;go_loopg [8,7] m (fun k iv ov wr=>∃q:Nat,iv = .int .i64 q∧q≤m∧k=m - q∧Own wr (fun k=>w.heap.size≤k) 3 1 ov q ((cntsF FactP.node l q).map (Value.int .i64))∧Chg NoB w wr)
  case atStart=>exact ⟨0,rfl,by omega,by omega,Own.nil _ _ _ _,Chg.refl _ _⟩
  case round=>
   obtain ⟨q,rfl,hqm,hk,hO,hC⟩:=hrel
   obtain ⟨op,oc,rfl⟩:=hO.form
   have HK:=Lib.hid hk
   have HO:=Lib.hid hO
   have HC:=Lib.hid hC
   clear hk hO hC;by_cases hq:q<m
   ·have t3:decide ((q:Int)<m)=true:=decide_eq_true (by omega)
    have t3':decide (q<m)=true:=decide_eq_true hq
    go_wp2_with fail;go_loopg [23,9] l.length (fun k iv cv wx=>∃i:Nat,iv = .int .i64 i∧i≤l.length∧k=l.length - i∧cv = .int .i64 (cntF FactP.node (l.take i) q)∧Chg NoB wr wx)
    case atStart=>exact ⟨0,rfl,by omega,by omega,rfl,Chg.refl _ _⟩
    case round=>
     obtain ⟨i,rfl,hin,hki,rfl,hCi⟩:=hrel
     rename World=>wx;have HKI:=Lib.hid hki
     have HCI:=Lib.hid hCi
     clear hki hCi;by_cases hi:i<l.length
     ·have t4:decide ((i:Int)<l.length)=true:=decide_eq_true (by omega)
      have t4':decide (i<l.length)=true:=decide_eq_true hi
      obtain ⟨f,hf⟩:∃f,l[i]? = some f:=⟨l[i]'hi,List.getElem?_eq_getElem _⟩
      have HT:=Lib.hid (take_next hf)
      obtain ⟨-,p,c,hv,hnc,hr⟩:=HS.out
      cases hv
      obtain ⟨gb,off,rfl,hgS,hgl,hcell⟩:=hr (by omega)
      have hx:∀j,j<16→∀u,f.vs[j]? = some u→wx.cell? ⟨gb,off+(i*16+j),none⟩=some u:=fun j hj u hu=>(HC.out.step HCI.out).cell (hcell (i*16+j) u ((fcells_get l i j f hf hj).trans hu)) id
      have hci:cntF FactP.node (l.take i) q≤i:=Nat.le_trans (cntF_le _ _ _) (by rw [List.length_take];omega)
      have hap:=cntF_app FactP.node (l.take i) f q
      obtain ⟨ci,hce⟩:∃c,cntF FactP.node (l.take i) (q:Int)=c:=⟨_,rfl⟩
      rw [hce] at hci hap
      simp only [hce]
      obtain ⟨step,node,page,⟨done,⟨op,rd,rs,rt,im⟩,pc,cause,access,addr,size,old,new⟩⟩:=f
      have x0:wx.cell? ⟨gb,off+i*16,none⟩=some (.int .i64 step):=(congrArg (fun o=>wx.cell? ⟨gb,o,none⟩) (by omega)).trans (hx 0 (by decide) _ rfl)
      have x1:wx.cell? ⟨gb,off+i*16+1,none⟩=some (.int .i64 node):=(congrArg (fun o=>wx.cell? ⟨gb,o,none⟩) (by omega)).trans (hx 1 (by decide) _ rfl)
      have x2:wx.cell? ⟨gb,off+i*16+2,none⟩=some (.int .i64 page):=(congrArg (fun o=>wx.cell? ⟨gb,o,none⟩) (by omega)).trans (hx 2 (by decide) _ rfl)
      have x3:wx.cell? ⟨gb,off+i*16+3,none⟩=some (.bool done):=(congrArg (fun o=>wx.cell? ⟨gb,o,none⟩) (by omega)).trans (hx 3 (by decide) _ rfl)
      have x4:wx.cell? ⟨gb,off+i*16+4,none⟩=some (.int .i64 op):=(congrArg (fun o=>wx.cell? ⟨gb,o,none⟩) (by omega)).trans (hx 4 (by decide) _ rfl)
      have x5:wx.cell? ⟨gb,off+i*16+5,none⟩=some (.int .i64 rd):=(congrArg (fun o=>wx.cell? ⟨gb,o,none⟩) (by omega)).trans (hx 5 (by decide) _ rfl)
      have x6:wx.cell? ⟨gb,off+i*16+6,none⟩=some (.int .i64 rs):=(congrArg (fun o=>wx.cell? ⟨gb,o,none⟩) (by omega)).trans (hx 6 (by decide) _ rfl)
      have x7:wx.cell? ⟨gb,off+i*16+7,none⟩=some (.int .i64 rt):=(congrArg (fun o=>wx.cell? ⟨gb,o,none⟩) (by omega)).trans (hx 7 (by decide) _ rfl)
      have x8:wx.cell? ⟨gb,off+i*16+8,none⟩=some (.int .i64 im):=(congrArg (fun o=>wx.cell? ⟨gb,o,none⟩) (by omega)).trans (hx 8 (by decide) _ rfl)
      have x9:wx.cell? ⟨gb,off+i*16+9,none⟩=some (.int .u64 pc):=(congrArg (fun o=>wx.cell? ⟨gb,o,none⟩) (by omega)).trans (hx 9 (by decide) _ rfl)
      have x10:wx.cell? ⟨gb,off+i*16+10,none⟩=some (.int .i64 cause):=(congrArg (fun o=>wx.cell? ⟨gb,o,none⟩) (by omega)).trans (hx 10 (by decide) _ rfl)
      have x11:wx.cell? ⟨gb,off+i*16+11,none⟩=some (.int .i64 access):=(congrArg (fun o=>wx.cell? ⟨gb,o,none⟩) (by omega)).trans (hx 11 (by decide) _ rfl)
      have x12:wx.cell? ⟨gb,off+i*16+12,none⟩=some (.int .u64 addr):=(congrArg (fun o=>wx.cell? ⟨gb,o,none⟩) (by omega)).trans (hx 12 (by decide) _ rfl)
      have x13:wx.cell? ⟨gb,off+i*16+13,none⟩=some (.int .i64 size):=(congrArg (fun o=>wx.cell? ⟨gb,o,none⟩) (by omega)).trans (hx 13 (by decide) _ rfl)
      have x14:wx.cell? ⟨gb,off+i*16+14,none⟩=some (.int .u64 old):=(congrArg (fun o=>wx.cell? ⟨gb,o,none⟩) (by omega)).trans (hx 14 (by decide) _ rfl)
      have x15:wx.cell? ⟨gb,off+i*16+15,none⟩=some (.int .u64 new):=(congrArg (fun o=>wx.cell? ⟨gb,o,none⟩) (by omega)).trans (hx 15 (by decide) _ rfl)
      have hbl:=Nat.lt_of_lt_of_le hgl (HC.out.step HCI.out).size
      have HC1:=Lib.hid (HCI.out.alloc (.cells #[.int .i64 step,.int .i64 node,.int .i64 page,.bool done,.int .i64 op,.int .i64 rd,.int .i64 rs,.int .i64 rt,.int .i64 im,.int .u64 pc,.int .i64 cause,.int .i64 access,.int .u64 addr,.int .i64 size,.int .u64 old,.int .u64 new] 71))
      have q1:wrap64 ((ci:Int)+1)=((ci+1:Nat):Int):=by rw [IntWalk.wrap64_in _ (by have:=HL.out;omega)];rfl
      by_cases he:node=(q:Int)
      ·have HX:Hid (cntF FactP.node (l.take (i+1)) q=ci+1):=Lib.hid (by rw [HT.out,hap,if_pos he])
       have e1:(node == (q:Int))=true:=by rw [he];simp
       have e2:decide (node=(q:Int))=true:=decide_eq_true he
       clear hx hr hcell hap he hce;go_wp2_with fail;go_roundg (l.length - (i+1))
       case rel=>exact ⟨i+1,by go_num,by omega,rfl,by rw [HX.out];go_num,HC1.out⟩
       case measure=>rw [HKI.out];omega
      ·have HX:Hid (cntF FactP.node (l.take (i+1)) q=ci):=Lib.hid (by rw [HT.out,hap,if_neg he];rfl)
       have e1:(node == (q:Int))=false:=by simpa using he
       have e2:decide (node=(q:Int))=false:=decide_eq_false he
       clear hx hr hcell hap he hce;go_wp2_with fail;go_roundg (l.length - (i+1))
       case rel=>exact ⟨i+1,by go_num,by omega,rfl,by rw [HX.out],HC1.out⟩
       case measure=>rw [HKI.out];omega
     ·have t4:decide ((i:Int)<l.length)=false:=decide_eq_false (by omega)
      have t4':decide (i<l.length)=false:=decide_eq_false hi
      obtain rfl:i=l.length:=by omega
      rw [List.take_length]
      obtain ⟨cq,hcq⟩:∃c,cntF FactP.node l (q:Int)=c:=⟨_,rfl⟩
      simp only [hcq]
      have HCQ:=Lib.hid hcq
      have hO:=HO.out.chg0 HCI.out
      have oX:=Lib.hid (hO.chg0 ((Chg.refl NoB wx).alloc (.cells #[.int .i64 cq] 3)))
      have sX:=Lib.hid (Sl.fresh wx [.int .i64 cq] 3 1 (size:=1) rfl)
      obtain ⟨i0,hi0,hz0,hz1,hz2⟩:=info_parts INTi0
      have one:∀u∈[Value.int .i64 cq],u.oneCell'=true:=by simp [Value.oneCell']
      have b1:q+1≤maxLen:=by have:=HM.out;unfold maxLen;omega
      have b2:(q+1)*8≤140737488355328:=by have:=HM.out;omega
      clear hO hcq;go_wp2_with (at_builtin;go_must (refine wpList_app rfl _ _ 30 rfl i0 _ 8 Tryz.underlying30 hi0 hz0 hz1 hz2 rfl rfl oX.out _ 1 _ rfl sX.out one b1 b2 ?_))
      intro v' w5 ho5 hg5 hn5;have hC5:=grown_chg (S:=fun k=>w.heap.size≤k) hg5 fun k hk=>(oX.out.ownBlock k hk).1
      have HC5:Hid (Chg NoB w w5):=Lib.hid ((HC.out.step (HCI.out.alloc (.cells #[.int .i64 cq] 3))).trans hC5 fun k hk e=>by omega)
      have HO5:Hid (Own w5 (fun k=>w.heap.size≤k) 3 1 v' (q+1) ((cntsF FactP.node l (q+1)).map (Value.int .i64))):=Lib.hid (by
       have e:(cntsF FactP.node l (q+1)).map (Value.int .i64)=(cntsF FactP.node l q).map (Value.int .i64) ++ [.int .i64 cq]:=by
        unfold cntsF
        rw [List.range_succ,List.map_append,List.map_append]
        simp only [List.map_cons,List.map_nil,HCQ.out]
       rw [e]
       exact ho5.mono fun k hk=>hk.elim (fun hk=>(oX.out.ownBlock k hk).1) fun hk=>by
        have:=(HC.out.step HCI.out).size
        rw [hk];omega)
      obtain ⟨yp,yc,rfl⟩:=ho5.form
      clear hi0 hz0 hz1 hz2 one b1 b2 ho5 hg5 hn5 oX sX hC5;go_wp2_with fail;go_roundg (m - (q+1))
      case rel=>exact ⟨q+1,by go_num,by omega,rfl,HO5.out,HC5.out⟩
      case measure=>rw [HK.out];omega
   ·have t3:decide ((q:Int)<m)=false:=decide_eq_false (by omega)
    have t3':decide (q<m)=false:=decide_eq_false hq
    obtain rfl:q=m:=by omega
    go_wp2_with fail;go_ret;exact ⟨_,rfl,by rw [HE.out,cntsF_len];exact HO.out.sl,HC.out⟩
theorem counted_len (g:FactP→Int) (l:List FactP) {n:Int} (hn:n≤300∨65536<n):(countedF g l n).length≤100000:=by
 unfold countedF
 split
 ·simp
 ·rw [cntsF_len];omega
theorem meterFacts_any {w:World} (L:Lb w) (l:List FactP) (S:Nat→Prop) (v:Value) (hs:Sl w S 16 v l.length (fcells l)) (hl:l.length≤9223372036854775807) (n:Int) (h1 : -9223372036854775808≤n) (h2:n≤9223372036854775807):Calls Tryz.prog 4 #[v,.int .i64 n] w (RetW (.bool true) fun w'=>Chg NoB w w'):=by
 have HF:=Lib.hid (first35_any L)
 have HS:=Lib.hid hs
 obtain ⟨vp,vc,rfl⟩:=hs.form
 clear hs L;by_cases ha:100<l.length
 ·have t1:decide ((100:Int)<l.length)=true:=decide_eq_true (by omega)
  have t2:decide (100<l.length)=true:=decide_eq_true ha
  go_enter Tryz.func4,Tryz.ntmps4;go_wp2_with fail;with_reducible refine HF.out.mono ?_
  rintro e w1 ⟨rfl,c1⟩;go_wp2_with fail;go_ret;exact ⟨rfl,c1⟩
 ·have t1:decide ((100:Int)<l.length)=false:=decide_eq_false (by omega)
  have t2:decide (100<l.length)=false:=decide_eq_false ha
  by_cases hb:300<n
  ·have t3:decide (300<n)=true:=decide_eq_true hb
   by_cases hc:n≤65536
   ·have t4:decide (n≤65536)=true:=decide_eq_true hc
    go_enter Tryz.func4,Tryz.ntmps4;go_wp2_with fail;with_reducible refine HF.out.mono ?_
    rintro e w1 ⟨rfl,c1⟩;go_wp2_with fail;go_ret;exact ⟨rfl,c1⟩
   ·have t4:decide (n≤65536)=false:=decide_eq_false hc
    have hn:n≤300∨65536<n:=by omega
    have hl2:l.length≤100000:=by omega
    have hcp:=counted_len FactP.page l hn
    have hcq:=counted_len FactP.node l hn
    have HH:=Lib.hid (And.intro hn (And.intro hl2 (And.intro hcp hcq)))
    clear hn hl2 hcp hcq;go_enter Tryz.func4,Tryz.ntmps4;go_wp2_with fail;with_reducible refine HF.out.mono ?_
    rintro e w1 ⟨rfl,c1⟩;have HC1:=Lib.hid c1
    clear c1;go_wp2_with fail;with_reducible refine (mPages_any l S _ (HS.out.chg0 HC1.out) HH.out.2.1 n HH.out.1).mono ?_
    rintro e w2 ⟨pv,rfl,hP,c2⟩;have HP:=Lib.hid hP
    have HC2:=Lib.hid (HC1.out.step c2)
    obtain ⟨pp,pc,hpv⟩:=hP.form
    subst hpv;clear hP c2;go_wp2_with fail;with_reducible refine (mNodes_any l S _ (HS.out.chg0 HC2.out) HH.out.2.1 n HH.out.1).mono ?_
    rintro e w3 ⟨qv,rfl,hQ,c3⟩;have HQ:=Lib.hid hQ
    have HP3:=Lib.hid (HP.out.chg0 c3)
    have HC3:=Lib.hid (HC2.out.step c3)
    obtain ⟨qp,qc,hqv⟩:=hQ.form
    subst hqv;clear hQ c3;go_wp2_with fail;with_reducible refine (rOf_page l S _ (HS.out.chg0 HC3.out) HH.out.2.1 n HH.out.1).mono ?_
    rintro e w4 ⟨ov,rfl,hO,c4⟩;have HO:=Lib.hid hO
    have HP4:=Lib.hid (HP3.out.chg0 c4)
    have HQ4:=Lib.hid (HQ.out.chg0 c4)
    have HC4:=Lib.hid (HC3.out.step c4)
    obtain ⟨op,oc,hov⟩:=hO.form
    subst hov;clear hO c4;go_wp2_with fail;with_reducible refine (same_eq _ _ _ _ _ HP4.out HO.out HH.out.2.2.1).mono ?_
    rintro e w5 ⟨rfl,c5⟩;have HQ5:=Lib.hid (HQ4.out.chg0 c5)
    have HC5:=Lib.hid (HC4.out.step c5)
    clear c5;go_wp2_with fail;with_reducible refine (rOf_node l S _ (HS.out.chg0 HC5.out) HH.out.2.1 n HH.out.1).mono ?_
    rintro e w6 ⟨rv,rfl,hR,c6⟩;have HR:=Lib.hid hR
    have HQ6:=Lib.hid (HQ5.out.chg0 c6)
    have HC6:=Lib.hid (HC5.out.step c6)
    obtain ⟨rp,rc,hrv⟩:=hR.form
    subst hrv;clear hR c6;go_wp2_with fail;with_reducible refine (same_eq _ _ _ _ _ HQ6.out HR.out HH.out.2.2.2).mono ?_
    rintro e w7 ⟨rfl,c7⟩;have HC7:=Lib.hid (HC6.out.step c7)
    clear c7;go_wp2_with fail;go_ret;exact ⟨rfl,HC7.out⟩
  ·have t3:decide (300<n)=false:=decide_eq_false hb
   have hn:n≤300∨65536<n:=by omega
   have hl2:l.length≤100000:=by omega
   have hcp:=counted_len FactP.page l hn
   have hcq:=counted_len FactP.node l hn
   have HH:=Lib.hid (And.intro hn (And.intro hl2 (And.intro hcp hcq)))
   clear hn hl2 hcp hcq;go_enter Tryz.func4,Tryz.ntmps4;go_wp2_with fail;with_reducible refine HF.out.mono ?_
   rintro e w1 ⟨rfl,c1⟩;have HC1:=Lib.hid c1
   clear c1;go_wp2_with fail;with_reducible refine (mPages_any l S _ (HS.out.chg0 HC1.out) HH.out.2.1 n HH.out.1).mono ?_
   rintro e w2 ⟨pv,rfl,hP,c2⟩;have HP:=Lib.hid hP
   have HC2:=Lib.hid (HC1.out.step c2)
   obtain ⟨pp,pc,hpv⟩:=hP.form
   subst hpv;clear hP c2;go_wp2_with fail;with_reducible refine (mNodes_any l S _ (HS.out.chg0 HC2.out) HH.out.2.1 n HH.out.1).mono ?_
   rintro e w3 ⟨qv,rfl,hQ,c3⟩;have HQ:=Lib.hid hQ
   have HP3:=Lib.hid (HP.out.chg0 c3)
   have HC3:=Lib.hid (HC2.out.step c3)
   obtain ⟨qp,qc,hqv⟩:=hQ.form
   subst hqv;clear hQ c3;go_wp2_with fail;with_reducible refine (rOf_page l S _ (HS.out.chg0 HC3.out) HH.out.2.1 n HH.out.1).mono ?_
   rintro e w4 ⟨ov,rfl,hO,c4⟩;have HO:=Lib.hid hO
   have HP4:=Lib.hid (HP3.out.chg0 c4)
   have HQ4:=Lib.hid (HQ.out.chg0 c4)
   have HC4:=Lib.hid (HC3.out.step c4)
   obtain ⟨op,oc,hov⟩:=hO.form
   subst hov;clear hO c4;go_wp2_with fail;with_reducible refine (same_eq _ _ _ _ _ HP4.out HO.out HH.out.2.2.1).mono ?_
   rintro e w5 ⟨rfl,c5⟩;have HQ5:=Lib.hid (HQ4.out.chg0 c5)
   have HC5:=Lib.hid (HC4.out.step c5)
   clear c5;go_wp2_with fail;with_reducible refine (rOf_node l S _ (HS.out.chg0 HC5.out) HH.out.2.1 n HH.out.1).mono ?_
   rintro e w6 ⟨rv,rfl,hR,c6⟩;have HR:=Lib.hid hR
   have HQ6:=Lib.hid (HQ5.out.chg0 c6)
   have HC6:=Lib.hid (HC5.out.step c6)
   obtain ⟨rp,rc,hrv⟩:=hR.form
   subst hrv;clear hR c6;go_wp2_with fail;with_reducible refine (same_eq _ _ _ _ _ HQ6.out HR.out HH.out.2.2.2).mono ?_
   rintro e w7 ⟨rfl,c7⟩;have HC7:=Lib.hid (HC6.out.step c7)
   clear c7;go_wp2_with fail;go_ret;exact ⟨rfl,HC7.out⟩
theorem fact_rd {H:Type} {enc:TypeId×Value→H} {w:World} {c:List Value} (hr:Rd enc Tryz.prog w 71 c) (hl:c.length=16):∃f:FactP,c=f.vs∧f.Ok:=by
 obtain ⟨-,hf⟩:=hr.struct Tryz.underlying71
 have f0:=hf 0 _ rfl
 have f1:=hf 1 _ rfl
 have f2:=hf 2 _ rfl
 have f3:=hf 3 _ rfl
 match c,hl,f0,f1,f2,f3 with
 | [x0,x1,x2,y0,z0,z1,z2,z3,z4,y2,y3,y4,y5,y6,y7,y8],_,f0,f1,f2,f3=>
  obtain ⟨k0,e0,-⟩:=Rd.int (k:=.i64) (cs:=[x0]) Tryz.underlying3 f0
  cases e0
  obtain ⟨k1,e1,-⟩:=Rd.int (k:=.i64) (cs:=[x1]) Tryz.underlying3 f1
  cases e1
  obtain ⟨k2,e2,-⟩:=Rd.int (k:=.i64) (cs:=[x2]) Tryz.underlying3 f2
  cases e2
  replace f3:Rd enc Tryz.prog w 69 [y0,z0,z1,z2,z3,z4,y2,y3,y4,y5,y6,y7,y8]:=f3
  obtain ⟨-,hg⟩:=f3.struct Tryz.underlying69
  obtain ⟨d0,e3⟩:=Rd.bool (cs:=[y0]) Tryz.underlying4 (hg 0 _ rfl)
  cases e3
  have gi:Rd enc Tryz.prog w 50 [z0,z1,z2,z3,z4]:=hg 1 _ rfl
  obtain ⟨-,hh⟩:=gi.struct Tryz.underlying50
  obtain ⟨i0,e4,-⟩:=Rd.int (k:=.i64) (cs:=[z0]) Tryz.underlying48 (hh 0 _ rfl)
  cases e4
  obtain ⟨i1,e5,-⟩:=Rd.int (k:=.i64) (cs:=[z1]) Tryz.underlying3 (hh 1 _ rfl)
  cases e5
  obtain ⟨i2,e6,-⟩:=Rd.int (k:=.i64) (cs:=[z2]) Tryz.underlying3 (hh 2 _ rfl)
  cases e6
  obtain ⟨i3,e7,-⟩:=Rd.int (k:=.i64) (cs:=[z3]) Tryz.underlying3 (hh 3 _ rfl)
  cases e7
  obtain ⟨i4,e8,-⟩:=Rd.int (k:=.i64) (cs:=[z4]) Tryz.underlying3 (hh 4 _ rfl)
  cases e8
  obtain ⟨d2,e9,b2⟩:=Rd.int (k:=.u64) (cs:=[y2]) Tryz.underlying65 (hg 2 _ rfl)
  cases e9
  obtain ⟨d3,ea,-⟩:=Rd.int (k:=.i64) (cs:=[y3]) Tryz.underlying66 (hg 3 _ rfl)
  cases ea
  obtain ⟨d4,eb,-⟩:=Rd.int (k:=.i64) (cs:=[y4]) Tryz.underlying67 (hg 4 _ rfl)
  cases eb
  obtain ⟨d5,ec,b5⟩:=Rd.int (k:=.u64) (cs:=[y5]) Tryz.underlying65 (hg 5 _ rfl)
  cases ec
  obtain ⟨d6,ed,-⟩:=Rd.int (k:=.i64) (cs:=[y6]) Tryz.underlying3 (hg 6 _ rfl)
  cases ed
  obtain ⟨d7,ee,b7⟩:=Rd.int (k:=.u64) (cs:=[y7]) Tryz.underlying65 (hg 7 _ rfl)
  cases ee
  obtain ⟨d8,ef,b8⟩:=Rd.int (k:=.u64) (cs:=[y8]) Tryz.underlying65 (hg 8 _ rfl)
  cases ef
  have g2:=bounds_u64 b2
  have g5:=bounds_u64 b5
  have g7:=bounds_u64 b7
  have g8:=bounds_u64 b8
  obtain ⟨m2,rfl⟩:=Int.eq_ofNat_of_zero_le g2.1
  obtain ⟨m5,rfl⟩:=Int.eq_ofNat_of_zero_le g5.1
  obtain ⟨m7,rfl⟩:=Int.eq_ofNat_of_zero_le g7.1
  obtain ⟨m8,rfl⟩:=Int.eq_ofNat_of_zero_le g8.1
  exact ⟨⟨k0,k1,k2,⟨d0,⟨i0,i1,i2,i3,i4⟩,m2,d3,d4,m5,d6,m7,m8⟩⟩,rfl,by show m5<_;omega,by show m7<_;omega,by show m8<_;omega⟩
theorem facts_in {H:Type} {enc:TypeId×Value→H} {w:World} {a:Option Addr} {len cap:Nat} (h:Rd enc Tryz.prog w 34 [.slice a len cap]) :
  ∃l:List FactP,l.length=len∧len≤9223372036854775807∧Sl w (fun k=>k<w.heap.size) 16 (.slice a len cap) l.length (fcells l)∧∀f∈l,f.Ok:=by
 obtain ⟨p,n,c,e1,hn,ess,hl,hall,hs⟩:=h.slice 16 Tryz.underlying34 (by kernel_rfl) (by decide)
 cases e1
 obtain ⟨ps,h1,h2⟩:=list_of FactP.vs FactP.Ok ess fun c hc=>by
  obtain ⟨hr,hc2⟩:=hall c hc
  exact fact_rd hr hc2
 have hlen:ps.length=len:=by rw [←hl,h1];simp
 refine ⟨ps,hlen,hn,?_,h2⟩
 rw [hlen]
 show Sl w (fun k=>k<w.heap.size) 16 (.slice a len cap) len (ps.flatMap FactP.vs)
 rw [List.flatMap_def,←h1]
 exact hs
end Go.Proofs.YtjhnnjgnkkjmkaaGreatDoor
