/- Any tally's text is the reference's. No condition. -/
import Derived.Test.YtjhnnjgnkkjmkaaGreatDoorIq
import Derived.Test.YtjhnnjgnkkjmkaaGreatDoorIr
import Derived.Test.YtjhnnjgnkkjmkaaGreatDoorIp
import Derived.Test.YtjhnnjgnkkjmkaaGreatDoorIs
import Derived.Test.YtjhnnjgnkkjmkaaGreatDoorFb
set_option maxHeartbeats 4000000
set_option maxRecDepth 100000
set_option linter.unusedVariables false
set_option linter.unusedSimpArgs false
namespace Go.Proofs.YtjhnnjgnkkjmkaaGreatDoor
open Go.Lib
def digR (n more:Nat):Bs:=
 if h:n%10+more=10∧n≠0 then digR (n / 10) 1 ++ [48]
 else if h2:n / 10=0 then [UInt8.ofNat (48+(n%10+more))]
 else digR (n / 10) 0 ++ [UInt8.ofNat (48+(n%10+more))]
termination_by n
decreasing_by
 ·omega
 ·omega
theorem digR_eq:∀n more:Nat,more≤1→digR n more=decDigits (n+more):=by
 intro n;induction n using Nat.strongRecOn with
 | _ n ih=>
  intro more hm;rw [digR]
  by_cases h:n%10+more=10∧n≠0
  ·rw [dif_pos h,ih (n / 10) (by omega) 1 (by omega),dec_big (u:=n+more) (by omega)]
   rw [show (n+more) / 10=n / 10+1 by omega,show (n+more)%10=0 by omega]
   rfl
  ·rw [dif_neg h]
   by_cases h2:n / 10=0
   ·rw [dif_pos h2,dec_small (u:=n+more) (by omega)]
    rw [show n%10+more=n+more by omega]
   ·rw [dif_neg h2,ih (n / 10) (by omega) 0 (by omega),dec_big (u:=n+more) (by omega)]
    rw [show (n+more) / 10=n / 10+0 by omega,show (n+more)%10=n%10+more by omega]
theorem itoa_digR (n:Int):itoa n=if n<0 then 45 :: digR (-(n+1)).toNat 1 else digR n.toNat 0:=by
 unfold itoa
 by_cases h:n<0
 ·rw [if_pos h,if_pos h,digR_eq _ _ (by omega)]
  congr 2;omega
 ·rw [if_neg h,if_neg h,digR_eq _ _ (by omega)]
  congr 1
open Go.RowKit Go.RR
theorem digit_at:∀d:Nat,d<10→(ByteArray.mk #[48,49,50,51,52,53,54,55,56,57]).extract d (d+1)=⟨#[UInt8.ofNat (48+d)]⟩:=by decide +kernel
theorem digR_len (n more:Nat) (hm:more≤1) (hn:n≤9223372036854775807):(digR n more).length≤20:=by
 rw [digR_eq _ _ hm]
 exact dec_len 19 _ (by
  have:(10:Nat) ^ (19+1)=100000000000000000000:=by decide
  omega)
theorem digits_any:∀(n more:Nat) (w:World),more≤1→n≤9223372036854775807→Calls Tryz.prog 35 #[.int .i64 n,.int .i64 more] w (RetW (.string ⟨(digR n more).toArray⟩) fun w'=>w'=w):=by
 intro n;induction n using Nat.strongRecOn with
 | _ n ih=>
  intro more w hm hn;have hI:=Lib.hid fun h0:n≠0=>fun m' w' (hm':m'≤1)=>ih (n / 10) (by omega) m' w' hm' (by omega)
  clear ih;have hc:((n / 10:Nat):Int)=(n:Int) / 10:=by omega
  have hd:=digR.eq_1 n more
  by_cases h10:n%10+more=10
  ·have t0:((n:Int)%10+more == 10)=true:=by rw [beq_iff_eq];omega
   have h0:n≠0:=by omega
   rw [dif_pos ⟨h10,h0⟩] at hd
   have HD:=Lib.hid hd
   have H1:=Lib.hid (hI.out h0 1 w (by omega))
   rw [hc] at H1
   have hlen:=digR_len (n / 10) 1 (by omega) (by omega)
   have l0:¬9223372036854775807<(digR (n / 10) 1).length+1:=by omega
   have l1:decide (9223372036854775807<(digR (n / 10) 1).length+1)=false:=by simp;omega
   clear hd h10 hI hc hlen;go_enter Tryz.func35,Tryz.ntmps35;go_wp2_with fail;refine H1.out.mono ?_
   rintro e w1 ⟨rfl,rfl⟩;go_wp2_with fail;go_ret;exact ⟨by rw [HD.out,←bs_append];rfl,rfl⟩
  ·have t0:((n:Int)%10+more == 10)=false:=by rw [beq_eq_false_iff_ne];omega
   rw [dif_neg (by omega)] at hd
   have hdl:n%10+more<10:=by omega
   have hx:=digit_at _ hdl
   have b0:(0:Int)≤(n:Int)%10+more+1∧(n:Int)%10+more+1≤10:=by omega
   have b1:(0:Int)≤(n:Int)%10+more∧(n:Int)%10+more≤(n:Int)%10+more+1:=by omega
   have HX:=Lib.hid hx
   by_cases h0:n / 10=0
   ·have t1:((n:Int) / 10 == 0)=true:=by rw [beq_iff_eq];omega
    rw [dif_pos h0] at hd
    have HD:=Lib.hid hd
    clear hd hI hc hx h0;go_enter Tryz.func35,Tryz.ntmps35;go_wp2_with fail;go_ret;exact ⟨by rw [HD.out];exact congrArg (fun z=>Ending.returned (Value.string z)) HX.out,rfl⟩
   ·have t1:((n:Int) / 10 == 0)=false:=by rw [beq_eq_false_iff_ne];omega
    rw [dif_neg h0] at hd
    have HD:=Lib.hid hd
    have H1:=Lib.hid (hI.out (by omega) 0 w (by omega))
    rw [hc] at H1
    have hlen:=digR_len (n / 10) 0 (by omega) (by omega)
    have l0:¬9223372036854775807<(digR (n / 10) 0).length+1:=by omega
    have l1:decide (9223372036854775807<(digR (n / 10) 0).length+1)=false:=by simp;omega
    clear hd hI hc h0 hlen hx;go_enter Tryz.func35,Tryz.ntmps35;go_wp2_with fail;refine H1.out.mono ?_
    rintro e w1 ⟨rfl,rfl⟩;go_wp2_with fail;go_ret;refine ⟨?_,rfl⟩
    rw [HD.out,←bs_append]
    exact congrArg (fun z=>Ending.returned (Value.string ((ByteArray.mk (digR (n / 10) 0).toArray) ++ z))) HX.out
theorem num_any (n:Int) (w:World) (h:i64 n):Calls Tryz.prog 22 #[.int .i64 n] w (RetW (.string ⟨(Go.Lib.itoa n).toArray⟩) fun w'=>w'=w):=by
 obtain ⟨h1,h2⟩:=h
 have hd:=itoa_digR n
 by_cases hn:n<0
 ·rw [if_pos hn] at hd
  obtain ⟨m,hm⟩:∃m:Nat,-(n+1)=m:=⟨(-(n+1)).toNat,by omega⟩
  rw [hm,Int.toNat_natCast] at hd
  have H1:=Lib.hid (digits_any m 1 w (by omega) (by omega))
  have hlen:=digR_len m 1 (by omega) (by omega)
  have l0:¬9223372036854775807<1+(digR m 1).length:=by omega
  have l1:¬9223372036854775807<(digR m 1).length+1:=by omega
  have t0:decide (n<0)=true:=by simp;omega
  have HD:=Lib.hid hd
  have HM:=Lib.hid hm
  clear hd hm hlen;go_enter Tryz.func22,Tryz.ntmps22;go_wp2_with fail;rw [HM.out]
  refine H1.out.mono ?_
  rintro e w1 ⟨rfl,rfl⟩;go_wp2_with fail;go_ret;refine ⟨?_,rfl⟩
  rw [HD.out,show (45 :: digR m 1) = [45] ++ digR m 1 from rfl,←bs_append]
  rfl
 ·rw [if_neg hn] at hd
  obtain ⟨m,rfl⟩:∃m:Nat,n=m:=⟨n.toNat,by omega⟩
  rw [Int.toNat_natCast] at hd
  have H1:=Lib.hid (digits_any m 0 w (by omega) (by omega))
  have t0:decide ((m:Int)<0)=false:=by simp
  have HD:=Lib.hid hd
  clear hd;go_enter Tryz.func22,Tryz.ntmps22;go_wp2_with fail;refine H1.out.mono ?_
  rintro e w1 ⟨rfl,rfl⟩;go_wp2_with fail;go_ret;exact ⟨by rw [HD.out];rfl,rfl⟩
def wdR:List Bs:=[[101,118,101,110,116,115,32,105,100,108,101],[119,97,105,116,115],[114,97,110],[102,97,117,108,116,115],[101,110,100,101,100],[10,97,99,116,115,32,114,117,110],[100,101,108,105,118,101,114],[100,114,111,112],[100,111,117,98,108,101],[116,117,114,110],[99,117,116],[116,105,99,107],[98,97,100],[10,102,114,97,109,101,115,32,98,111,100,121],[97,99,107],[110,111,110,101],[98,121,116,101,115],[10,108,101,116,116,101,114,115,32,114,101,97,100],[119,114,105,116,101],[99,111,112,121],[103,114,97,110,116],[102,111,114,103,101,116],[102,111,114,103,111,116]]
def numsT (t:Nat→Int):List Int:=[t 0,t 1,t 2,t 3,t 4,t 5,t 6,t 7,t 8,t 9,t 10,t 11,t 12,t 13,t 14,t 15,t 23,t 17,t 18,t 19,t 20,t 21,t 22]
def sepR (i:Nat) (x:Bs):Bs:=if i=0 then [] else if x.head? = some 10 then [] else [32]
def rtF:Nat→List Bs→List Int→Bs
 | i,x :: xs,n :: ns=>sepR i x ++ x ++ [32] ++ Go.Lib.itoa n ++ rtF (i+1) xs ns
 | _,_,_=>[]
theorem rtF_next:∀(ws:List Bs) (ns:List Int) (j i:Nat) (x:Bs) (n:Int),ws[i]? = some x→ns[i]? = some n→rtF j (ws.take (i+1)) (ns.take (i+1))=rtF j (ws.take i) (ns.take i) ++ (sepR (j+i) x ++ x ++ [32] ++ Go.Lib.itoa n)
 | w :: ws,m :: ns,j,0,x,n,h1,h2=>by
  cases h1;cases h2
  simp [rtF]
 | w :: ws,m :: ns,j,i+1,x,n,h1,h2=>by
  have:=rtF_next ws ns (j+1) i x n (by simpa using h1) (by simpa using h2)
  show sepR j w ++ w ++ [32] ++ Go.Lib.itoa m ++ rtF (j+1) (ws.take (i+1)) (ns.take (i+1))=(sepR j w ++ w ++ [32] ++ Go.Lib.itoa m ++ rtF (j+1) (ws.take i) (ns.take i)) ++ _
  rw [this,show j+1+i=j+(i+1) by omega]
  simp only [List.append_assoc]
 | [],_,_,_,_,_,h1,_=>by simp at h1
 | _ :: _,[],_,_,_,_,_,h2=>by simp at h2
theorem rtF_len {m:Nat} : ∀(ws:List Bs) (ns:List Int) (j:Nat),(∀x∈ws,x.length≤m)→(∀n∈ns,(Go.Lib.itoa n).length≤m)→(rtF j ws ns).length≤ns.length*(2*m+2)
 | [],ns,_,_,_=>by simp [rtF]
 | _ :: _,[],_,_,_=>by simp [rtF]
 | w :: ws,n :: ns,j,h1,h2=>by
  have:=rtF_len ws ns (j+1) (fun y hy=>h1 y (List.mem_cons_of_mem _ hy)) fun y hy=>h2 y (List.mem_cons_of_mem _ hy)
  have a:=h1 w List.mem_cons_self
  have b:=h2 n List.mem_cons_self
  have c:(sepR j w).length≤1:=by unfold sepR;split;simp;split <;> simp
  show (sepR j w ++ w ++ [32] ++ Go.Lib.itoa n ++ rtF (j+1) ws ns).length≤_
  simp only [List.length_append,List.length_cons,List.length_nil]
  rw [Nat.add_mul]
  omega
theorem text_eq (t:Nat→Int):textT t=rtF 0 wdR (numsT t) ++ [10]:=by
 unfold textT numsT wdR
 simp [rtF,sepR,lnT,lineT,ntT,hdT1,hdT2,hdT3,hdT4,wsT1,wsT2,wsT3,wsT4,partsT,Go.Lib.join_cons,Go.Lib.joinTail]
theorem own_step {w0 w w':World} {E:TypeId} {size:Nat} {v v':Value} {n n':Nat} {us us':List Value} (hown:Own w (fun k=>w0.heap.size≤k) E size v n us) (c:Chg NoB w0 w) {B:Nat} (h2:Own w' (fun k=>v.ownBlock=some k∨k=B) E size v' n' us') (hB:w.heap.size=B) (g:w.grownBy w' v.ownBlock):Own w' (fun k=>w0.heap.size≤k) E size v' n' us'∧Chg NoB w0 w':=
 ⟨h2.mono fun k hk=>by
  rcases hk with hk | hk
  ·exact (hown.ownBlock k hk).1
  ·have:=c.size;omega,c.grown g fun k hk=>.inr (hown.ownBlock k hk).1⟩
theorem numbers_any {w:World} (t:Nat→Int):Calls Tryz.prog 9 #[.agg (tallyC t)] w (RetSl fun v w'=>Own w' (fun k=>w.heap.size≤k) 3 1 v 23 ((numsT t).map (Value.int .i64))∧Chg NoB w w'):=by
 unfold tallyC
 have hB:=Blk.new w (tallyC t) 26
 have C0:Chg NoB w (w.alloc (.cells (tallyC t) 26)):=(Chg.refl NoB w).alloc _
 unfold tallyC at hB C0
 generalize hw0:w.alloc (.cells #[.int .i64 (t 0),.int .i64 (t 1),.int .i64 (t 2),.int .i64 (t 3),.int .i64 (t 4),.int .i64 (t 5),.int .i64 (t 6),.int .i64 (t 7),.int .i64 (t 8),.int .i64 (t 9),.int .i64 (t 10),.int .i64 (t 11),.int .i64 (t 12),.int .i64 (t 13),.int .i64 (t 14),.int .i64 (t 15),.int .i64 (t 16),.int .i64 (t 17),.int .i64 (t 18),.int .i64 (t 19),.int .i64 (t 20),.int .i64 (t 21),.int .i64 (t 22),.int .i64 (t 23)] 26)=w0 at *;have hg:w.heap.size<w0.heap.size:=hB.lt
 have hs:∀w',Chg NoB w0 w'→∀(off n:Nat) (us:List Value),us.length=n*1→(∀j u,us[j]? = some u→(tallyC t)[off+j]? = some u)→Sl w' (fun k=>k=w.heap.size) 1 (.slice (some ⟨w.heap.size,off,none⟩) n n) n us:=fun w' c off n us h1 h2=>
  Sl.of h1 (Nat.le_refl _) rfl (Nat.lt_of_lt_of_le hg c.size) fun j u hu=>(c.blk0 hB).cell' (h2 j u hu)
 have HSE:=Lib.hid fun w' (c:Chg NoB w0 w')=>hs w' c 0 5 [.int .i64 (t 0),.int .i64 (t 1),.int .i64 (t 2),.int .i64 (t 3),.int .i64 (t 4)] rfl (fun j u hu=>by match j,hu with | 0,h=>exact h | 1,h=>exact h | 2,h=>exact h | 3,h=>exact h | 4,h=>exact h | (k+5),h=>exact absurd (List.getElem?_eq_some_iff.1 h).1 (by show ¬k+5<5;omega))
 have HSA:=Lib.hid fun w' (c:Chg NoB w0 w')=>hs w' c 5 7 [.int .i64 (t 5),.int .i64 (t 6),.int .i64 (t 7),.int .i64 (t 8),.int .i64 (t 9),.int .i64 (t 10),.int .i64 (t 11)] rfl (fun j u hu=>by match j,hu with | 0,h=>exact h | 1,h=>exact h | 2,h=>exact h | 3,h=>exact h | 4,h=>exact h | 5,h=>exact h | 6,h=>exact h | (k+7),h=>exact absurd (List.getElem?_eq_some_iff.1 h).1 (by show ¬k+7<7;omega))
 have HSF:=Lib.hid fun w' (c:Chg NoB w0 w')=>hs w' c 13 3 [.int .i64 (t 13),.int .i64 (t 14),.int .i64 (t 15)] rfl (fun j u hu=>by match j,hu with | 0,h=>exact h | 1,h=>exact h | 2,h=>exact h | (k+3),h=>exact absurd (List.getElem?_eq_some_iff.1 h).1 (by show ¬k+3<3;omega))
 have HSM:=Lib.hid fun w' (c:Chg NoB w0 w')=>hs w' c 17 6 [.int .i64 (t 17),.int .i64 (t 18),.int .i64 (t 19),.int .i64 (t 20),.int .i64 (t 21),.int .i64 (t 22)] rfl (fun j u hu=>by match j,hu with | 0,h=>exact h | 1,h=>exact h | 2,h=>exact h | 3,h=>exact h | 4,h=>exact h | 5,h=>exact h | (k+6),h=>exact absurd (List.getElem?_eq_some_iff.1 h).1 (by show ¬k+6<6;omega))
 have G:=Lib.hid fun w' (c:Chg NoB w0 w')=>(c.blk0 hB).cell
 have GL:=Lib.hid fun w' (c:Chg NoB w0 w')=>Nat.lt_of_lt_of_le hg c.size
 have HC0:=Lib.hid C0
 obtain ⟨i0,hi0,hz0,hz1,hz2⟩:=info_parts INTfi
 clear hB hs C0;have HZ:=Lib.hid (Nat.le_of_lt hg)
 clear hg;go_enter Tryz.func9,Tryz.ntmps9;go_upto_region 1 with fail;clear hw0;generalize w.heap.size=tb at *;have cX:=(Chg.refl NoB w0).alloc (.cells #[] 3)
 have oX:Own (w0.alloc (.cells #[] 3)) (fun k=>w0.heap.size≤k) 3 1 (.slice (some ⟨w0.heap.size,0,none⟩) 0 0) 0 []:=(Own.fresh w0 [] 3 0 (size:=1) rfl (by decide)).mono fun k e=>by rw [e];exact Nat.le_refl _
 have sX:=HSE.out _ cX
 have b0:0+5≤maxLen:=by decide
 have b1:(0+5)*8≤140737488355328:=by decide
 go_wp2_with (at_builtin;go_must (refine wpList_app rfl _ _ 30 rfl i0 _ 8 Tryz.underlying30 hi0 hz0 hz1 hz2 rfl rfl oX _ 5 _ rfl sX (by simp [Value.oneCell']) b0 b1 ?_))
 intro v1 w1 ho hg hn;obtain ⟨oY,cY⟩:=own_step oX cX ho (by simp) hg
 clear ho hg hn sX oX cX b0 b1;try clear xP xL
 have oX:=oY
 have cX:=cY
 clear oY cY;have sX:=HSA.out _ cX
 have b0:5+7≤maxLen:=by decide
 have b1:(5+7)*8≤140737488355328:=by decide
 go_wp2_with (at_builtin;go_must (refine wpList_app rfl _ _ 30 rfl i0 _ 8 Tryz.underlying30 hi0 hz0 hz1 hz2 rfl rfl oX _ 7 _ rfl sX (by simp [Value.oneCell']) b0 b1 ?_))
 intro v2 w2 ho hg hn;obtain ⟨oY,cY⟩:=own_step oX cX ho (by simp) hg
 clear ho hg hn sX oX cX b0 b1;try clear xP xL
 have oX:=oY
 have cX:=cY
 clear oY cY;have xP:w2.cell? ⟨tb,12,none⟩=some (.int .i64 (t 12)):=G.out _ cX 12
 have xL:=GL.out _ cX
 have sX:=Sl1 w2 (.int .i64 (t 12)) 3
 replace oX:=oX.chg0 ((Chg.refl NoB w2).alloc (.cells #[.int .i64 (t 12)] 3))
 replace cX:=cX.alloc (.cells #[.int .i64 (t 12)] 3)
 have b0:12+1≤maxLen:=by decide
 have b1:(12+1)*8≤140737488355328:=by decide
 go_wp2_with (at_builtin;go_must (refine wpList_app rfl _ _ 30 rfl i0 _ 8 Tryz.underlying30 hi0 hz0 hz1 hz2 rfl rfl oX _ 1 _ rfl sX (by simp [Value.oneCell']) b0 b1 ?_))
 intro v3 w3 ho hg hn;obtain ⟨oY,cY⟩:=own_step oX cX ho (by simp) hg
 clear ho hg hn sX oX cX b0 b1;try clear xP xL
 have oX:=oY
 have cX:=cY
 clear oY cY;have sX:=HSF.out _ cX
 have b0:13+3≤maxLen:=by decide
 have b1:(13+3)*8≤140737488355328:=by decide
 go_wp2_with (at_builtin;go_must (refine wpList_app rfl _ _ 30 rfl i0 _ 8 Tryz.underlying30 hi0 hz0 hz1 hz2 rfl rfl oX _ 3 _ rfl sX (by simp [Value.oneCell']) b0 b1 ?_))
 intro v4 w4 ho hg hn;obtain ⟨oY,cY⟩:=own_step oX cX ho (by simp) hg
 clear ho hg hn sX oX cX b0 b1;try clear xP xL
 have oX:=oY
 have cX:=cY
 clear oY cY;have xP:w4.cell? ⟨tb,23,none⟩=some (.int .i64 (t 23)):=G.out _ cX 23
 have xL:=GL.out _ cX
 have sX:=Sl1 w4 (.int .i64 (t 23)) 3
 replace oX:=oX.chg0 ((Chg.refl NoB w4).alloc (.cells #[.int .i64 (t 23)] 3))
 replace cX:=cX.alloc (.cells #[.int .i64 (t 23)] 3)
 have b0:16+1≤maxLen:=by decide
 have b1:(16+1)*8≤140737488355328:=by decide
 go_wp2_with (at_builtin;go_must (refine wpList_app rfl _ _ 30 rfl i0 _ 8 Tryz.underlying30 hi0 hz0 hz1 hz2 rfl rfl oX _ 1 _ rfl sX (by simp [Value.oneCell']) b0 b1 ?_))
 intro v5 w5 ho hg hn;obtain ⟨oY,cY⟩:=own_step oX cX ho (by simp) hg
 clear ho hg hn sX oX cX b0 b1;try clear xP xL
 have oX:=oY
 have cX:=cY
 clear oY cY;have sX:=HSM.out _ cX
 have b0:17+6≤maxLen:=by decide
 have b1:(17+6)*8≤140737488355328:=by decide
 go_wp2_with (at_builtin;go_must (refine wpList_app rfl _ _ 30 rfl i0 _ 8 Tryz.underlying30 hi0 hz0 hz1 hz2 rfl rfl oX _ 6 _ rfl sX (by simp [Value.oneCell']) b0 b1 ?_))
 intro v6 w6 ho hg hn;obtain ⟨oY,cY⟩:=own_step oX cX ho (by simp) hg
 clear ho hg hn sX oX cX b0 b1;try clear xP xL
 have oX:=oY
 have cX:=cY
 clear oY cY;go_wp2_with fail;go_ret;exact ⟨v6,rfl,oX.mono fun k e=>Nat.le_trans HC0.out.size e,HC0.out.step cX⟩
theorem wdR_shape:∀i,i<23→∃(b:UInt8) (bs:Bs),wdR[i]? = some (b :: bs)∧bs.length≤20:=by
 intro i hi;have h:∀x∈wdR,∃(b:UInt8) (bs:Bs),x=b :: bs∧bs.length≤20:=by
  intro x hx;unfold wdR at hx
  simp only [List.mem_cons,List.not_mem_nil,or_false] at hx
  rcases hx with h | h | h | h | h | h | h | h | h | h | h | h | h | h | h | h | h | h | h | h | h | h | h <;> exact ⟨_,_,h,by decide⟩
 have hl:i<wdR.length:=hi
 obtain ⟨b,bs,e,hb⟩:=h _ (List.getElem_mem hl)
 exact ⟨b,bs,by rw [List.getElem?_eq_getElem hl,e],hb⟩
theorem rt_talI:(Tryz.prog.info? 26).map (·.size)=some 24:=by kernel_rfl
theorem numsT_i64 (t:Nat→Int) (ht:∀k,i64 (t k)):∀n∈numsT t,i64 n:=fun n hn=>by
 unfold numsT at hn
 simp only [List.mem_cons,List.not_mem_nil,or_false] at hn
 rcases hn with h | h | h | h | h | h | h | h | h | h | h | h | h | h | h | h | h | h | h | h | h | h | h <;> (rw [h];exact ht _)
theorem rt_len (t:Nat→Int) (h:∀n∈numsT t,i64 n) (i:Nat):(rtF 0 (wdR.take i) ((numsT t).take i)).length≤23*202:=by
 refine Nat.le_trans (rtF_len (m:=100) _ _ 0 (fun x hx=>?_) fun n hn=>?_) ?_
 ·obtain ⟨j,hj,rfl⟩:=List.getElem_of_mem (List.mem_of_mem_take hx)
  obtain ⟨b,bs,e,hb⟩:=wdR_shape j hj
  rw [List.getElem?_eq_getElem hj] at e
  rw [Option.some.inj e,List.length_cons];omega
 ·exact Nat.le_trans (itoa_len (h n (List.mem_of_mem_take hn))) (by decide)
 ·rw [List.length_take,show (numsT t).length=23 from rfl];omega
theorem rText_any {w:World} (t:Nat→Int) (ht:∀k,i64 (t k)):Calls Tryz.prog 7 #[.agg (tallyC t)] w (RetW (.string ⟨(rtF 0 wdR (numsT t) ++ [10]).toArray⟩) fun w'=>Chg NoB w w'):=by
 have hB:=Blk.new w (tallyC t) 26
 have C0:Chg NoB w (w.alloc (.cells (tallyC t) 26)):=(Chg.refl NoB w).alloc _
 have HI:=Lib.hid (numsT_i64 t ht)
 have HN:=Lib.hid fun w':World=>numbers_any (w:=w') t
 unfold tallyC at hB C0 HN ⊢
 generalize hw0:w.alloc (.cells #[.int .i64 (t 0),.int .i64 (t 1),.int .i64 (t 2),.int .i64 (t 3),.int .i64 (t 4),.int .i64 (t 5),.int .i64 (t 6),.int .i64 (t 7),.int .i64 (t 8),.int .i64 (t 9),.int .i64 (t 10),.int .i64 (t 11),.int .i64 (t 12),.int .i64 (t 13),.int .i64 (t 14),.int .i64 (t 15),.int .i64 (t 16),.int .i64 (t 17),.int .i64 (t 18),.int .i64 (t 19),.int .i64 (t 20),.int .i64 (t 21),.int .i64 (t 22),.int .i64 (t 23)] 26)=w0 at *;have HC0:=Lib.hid C0
 have HB:=Lib.hid hB
 clear ht hB C0;go_enter Tryz.func7,Tryz.ntmps7;go_upto_region 1 with fail;clear hw0;generalize w.heap.size=tb at *;go_upto_region 3 with fail;have c1:Chg NoB w0 (w0.alloc (.cells (strs wdR).toArray 9)):=(Chg.refl NoB w0).alloc _
 have hW:=Blk.new w0 (strs wdR).toArray 9
 change Code.wp _ _ _ _ (w0.alloc (.cells (strs wdR).toArray 9))
 have HW:=Lib.hid hW
 have HC1:=Lib.hid (HC0.out.step c1)
 have hB1:=c1.blk0 HB.out
 generalize w0.alloc (.cells (strs wdR).toArray 9)=w1 at *;obtain ⟨wb,hwb⟩:∃b,w0.heap.size=b:=⟨_,rfl⟩
 rw [hwb] at HW
 simp only [hwb]
 have hr:w1.rangeAt tb 0 [.int .i64 (t 0),.int .i64 (t 1),.int .i64 (t 2),.int .i64 (t 3),.int .i64 (t 4),.int .i64 (t 5),.int .i64 (t 6),.int .i64 (t 7),.int .i64 (t 8),.int .i64 (t 9),.int .i64 (t 10),.int .i64 (t 11),.int .i64 (t 12),.int .i64 (t 13),.int .i64 (t 14),.int .i64 (t 15),.int .i64 (t 16),.int .i64 (t 17),.int .i64 (t 18),.int .i64 (t 19),.int .i64 (t 20),.int .i64 (t 21),.int .i64 (t 22),.int .i64 (t 23)]:=fun j v hj=>by rw [Nat.zero_add];exact hB1.cell' ((List.getElem?_toArray ..).trans hj)
 clear hwb hW c1 hB1 HB HC0;go_wp2_with (first | (refine wpList_load_mid rfl _ _ rfl tb 0 rfl _ _ hr Tryz.underlying26 rfl rt_talI ?_))
 go_wp2_with fail;refine (HN.out _).mono ?_
 rintro e w2 ⟨nv,rfl,hO,c2⟩;have HW2:=Lib.hid (c2.blk0 HW.out)
 have HC2:=Lib.hid (HC1.out.step c2)
 have hS:=hO.sl
 obtain ⟨hl0,np,nc,rfl,hnc,hcell⟩:=hS
 obtain ⟨ng,no,rfl,-,hgl,hcl⟩:=hcell (by omega)
 have HNc:Hid (∀i n,(numsT t)[i]? = some n→w2.cell? ⟨ng,no+i,none⟩=some (.int .i64 n)):=Lib.hid fun i n h=>hcl i _ (by rw [List.getElem?_map,h];rfl)
 have HGL:=Lib.hid hgl
 clear hO hcell hcl hl0 hnc c2 hgl hr HN HC1 HW;go_wp2_with fail;go_loopg [11,4] 23 (fun k iv sv wr=>∃i:Nat,i+k=23∧iv = .int .i64 i∧sv = .string ⟨(rtF 0 (wdR.take i) ((numsT t).take i)).toArray⟩∧Chg NoB w2 wr)
 case atStart=>exact ⟨0,by omega,rfl,rfl,Chg.refl _ _⟩
 case round=>
  obtain ⟨i,hk,rfl,rfl,hC⟩:=hrel
  rename World=>wr;have HK:=Lib.hid hk
  have HC:=Lib.hid hC
  clear hk;by_cases hi:i<23
  ·have t1:decide ((i:Int)<23)=true:=decide_eq_true (by omega)
   have t2:decide (i<23)=true:=decide_eq_true hi
   obtain ⟨b,bs,hx,hbl⟩:=wdR_shape i hi
   obtain ⟨n,hn⟩:∃n,(numsT t)[i]? = some n:=⟨_,List.getElem?_eq_getElem (by show i<23;exact hi)⟩
   have hni:i64 n:=HI.out n (List.mem_of_getElem? hn)
   have x0:wr.cell? ⟨wb,i,none⟩=some (.string ⟨(b :: bs).toArray⟩):=(hC.blk0 HW2.out).cell' (by rw [List.getElem?_toArray];exact strs_get hx)
   have x1:wr.cell? ⟨ng,no+i,none⟩=some (.int .i64 n):=hC.cell (HNc.out i n hn) id
   have xl:=(hC.blk0 HW2.out).lt
   have xl2:=Nat.lt_of_lt_of_le HGL.out hC.size
   have HX:=Lib.hid (And.intro hx (And.intro hn (And.intro hbl hni)))
   have HNum:=Lib.hid fun w':World=>num_any n w' hni
   obtain ⟨s,hs⟩:∃s,rtF 0 (wdR.take i) ((numsT t).take i)=s:=⟨_,rfl⟩
   have hsl:s.length≤23*202:=by rw [←hs];exact rt_len t HI.out i
   have hil:=itoa_len hni
   have hz:∀h,(⟨(b :: bs).toArray⟩:ByteArray)[0]'h=b:=fun h=>rfl
   have HS:=Lib.hid hs
   rw [hs]
   clear hx hn hbl hni hC hs;have l1:(9223372036854775807<s.length+1)=False:=eq_false (by omega)
   have l2:(9223372036854775807<bs.length+1+1)=False:=eq_false (by have:=HX.out.2.2.1;omega)
   have l3:(9223372036854775807<bs.length+1+1+(Go.Lib.itoa n).length)=False:=eq_false (by have:=HX.out.2.2.1;omega)
   have g0:∀w',Chg NoB wr w'→w'.cell? ⟨wb,i,none⟩=some (.string ⟨(b :: bs).toArray⟩):=fun w' c=>c.cell x0 id
   have i1:(0:Int)≤i:=by omega
   have i2:(i:Int)<23:=by omega
   have i3:((i:Int)).toNat=i:=Int.toNat_natCast i
   by_cases h0:i=0
   ·have t3:decide ((0:Int)<i)=false:=decide_eq_false (by omega)
    have t4:decide (0<i)=false:=decide_eq_false (by omega)
    have H0:=Lib.hid h0
    clear h0;go_upto_region 8 with fail;obtain ⟨q,hq⟩:∃q,s=q:=⟨_,rfl⟩
    have hql:q.length≤23*202+1:=by rw [←hq];omega
    have HQ:Hid (q=s ++ sepR i (b :: bs)):=Lib.hid (by rw [←hq];unfold sepR;rw [if_pos H0.out,List.append_nil])
    simp only [hq]
    clear hq hz t3 t4 l1 x1 xl2;have cc:=Chg.refl NoB wr
    have l4:(9223372036854775807<q.length+(bs.length+1+1+(Go.Lib.itoa n).length))=False:=eq_false (by have:=HX.out.2.2.1;omega)
    refine wp_region_mix 10 [(true,0),(true,1),(true,2),(true,3),(true,4),(true,5),(true,6),(false,7),(true,8),(true,9)] (fun w'=>Chg NoB wr w') (by kernel_rfl) (by kernel_rfl) (fun _ _ _ _ _ h=>h) (cc.drew) ?_
    simp only [pickMix_nil,pickMix_cons,Option.getD_some,List.getElem?_toArray,List.getElem?_cons_zero,List.getElem?_cons_succ,List.cons_append,List.nil_append,List.drop_succ_cons,List.drop_zero]
    iterate 7
     refine wpMix_take rfl ?_;apply Exists.intro;refine ⟨fun wS hS=>?_,?_⟩
     ·try dsimp only at hS
      have cS:=hS
      go_simp;try rfl
     simp only [Act.put,List.setIfInBounds_toArray,List.set_cons_zero,List.set_cons_succ]
    refine wpMix_force rfl (fun K hK=>?_)
    go_simp;with_reducible refine (HNum.out _).mono ?_
    rintro e wN ⟨rfl,hwN⟩;subst hwN;refine hK _ _ cc.drew ?_
    clear hK K;iterate 2
     refine wpMix_take rfl ?_;apply Exists.intro;refine ⟨fun wS hS=>?_,?_⟩
     ·try dsimp only at hS
      have cS:=hS
      go_simp;try rfl
     simp only [Act.put,List.setIfInBounds_toArray,List.set_cons_zero,List.set_cons_succ]
    refine wpMix_nil ?_
    all_goals
     have e2:(⟨q.toArray⟩:ByteArray) ++ (⟨(b :: bs).toArray⟩ ++ ⟨#[32]⟩ ++ ⟨(Go.Lib.itoa n).toArray⟩)=⟨(q ++ ((b :: bs) ++ [32] ++ Go.Lib.itoa n)).toArray⟩:=by
      have e3:(⟨(b :: bs).toArray⟩:ByteArray) ++ ⟨#[32]⟩=⟨((b :: bs) ++ [32]).toArray⟩:=bs_append _ [32]
      rw [e3,bs_append,bs_append]
     simp only [e2]
     have HE:Hid (q ++ ((b :: bs) ++ [32] ++ Go.Lib.itoa n)=rtF 0 (wdR.take (i+1)) ((numsT t).take (i+1))):=Lib.hid (by
      rw [rtF_next _ _ 0 i _ _ HX.out.1 HX.out.2.1,HS.out,HQ.out,Nat.zero_add]
      simp only [List.append_assoc])
     clear e2 cc l2 l3 l4;go_wp2_with fail;go_roundg (23 - (i+1))
     case rel=>exact ⟨i+1,by omega,by go_num,by rw [HE.out],HC.out.drew⟩
     case measure=>have:=HK.out;omega
   ·have t3:decide ((0:Int)<i)=true:=decide_eq_true (by omega)
    have t4:decide (0<i)=true:=decide_eq_true (by omega)
    by_cases hb:b=10
    ·have hb':b.toNat=10:=by rw [hb];rfl
     have t5:(b.toNat != 10)=false:=by rw [hb'];rfl
     have t6:((b.toNat:Int) != 10)=false:=by rw [hb'];rfl
     have t7:(b.toNat == 10)=true:=by rw [hb'];rfl
     have t8:((b.toNat:Int) == 10)=true:=by rw [hb'];rfl
     have HBt:=Lib.hid hb
     clear hb' hb;go_upto_region 8 with fail;obtain ⟨q,hq⟩:∃q,s=q:=⟨_,rfl⟩
     have hql:q.length≤23*202+1:=by rw [←hq];omega
     have HQ:Hid (q=s ++ sepR i (b :: bs)):=Lib.hid (by rw [←hq];unfold sepR;rw [if_neg h0,if_pos (by rw [HBt.out];rfl),List.append_nil])
     simp only [hq]
     clear hq h0 hz t3 t4 t5 t6 t7 t8 l1 x1 xl2;have cc:=Chg.refl NoB wr
     have l4:(9223372036854775807<q.length+(bs.length+1+1+(Go.Lib.itoa n).length))=False:=eq_false (by have:=HX.out.2.2.1;omega)
     refine wp_region_mix 10 [(true,0),(true,1),(true,2),(true,3),(true,4),(true,5),(true,6),(false,7),(true,8),(true,9)] (fun w'=>Chg NoB wr w') (by kernel_rfl) (by kernel_rfl) (fun _ _ _ _ _ h=>h) (cc.drew) ?_
     simp only [pickMix_nil,pickMix_cons,Option.getD_some,List.getElem?_toArray,List.getElem?_cons_zero,List.getElem?_cons_succ,List.cons_append,List.nil_append,List.drop_succ_cons,List.drop_zero]
     iterate 7
      refine wpMix_take rfl ?_;apply Exists.intro;refine ⟨fun wS hS=>?_,?_⟩
      ·try dsimp only at hS
       have cS:=hS
       go_simp;try rfl
      simp only [Act.put,List.setIfInBounds_toArray,List.set_cons_zero,List.set_cons_succ]
     refine wpMix_force rfl (fun K hK=>?_)
     go_simp;with_reducible refine (HNum.out _).mono ?_
     rintro e wN ⟨rfl,hwN⟩;subst hwN;refine hK _ _ cc.drew ?_
     clear hK K;iterate 2
      refine wpMix_take rfl ?_;apply Exists.intro;refine ⟨fun wS hS=>?_,?_⟩
      ·try dsimp only at hS
       have cS:=hS
       go_simp;try rfl
      simp only [Act.put,List.setIfInBounds_toArray,List.set_cons_zero,List.set_cons_succ]
     refine wpMix_nil ?_
     all_goals
      have e2:(⟨q.toArray⟩:ByteArray) ++ (⟨(b :: bs).toArray⟩ ++ ⟨#[32]⟩ ++ ⟨(Go.Lib.itoa n).toArray⟩)=⟨(q ++ ((b :: bs) ++ [32] ++ Go.Lib.itoa n)).toArray⟩:=by
       have e3:(⟨(b :: bs).toArray⟩:ByteArray) ++ ⟨#[32]⟩=⟨((b :: bs) ++ [32]).toArray⟩:=bs_append _ [32]
       rw [e3,bs_append,bs_append]
      simp only [e2]
      have HE:Hid (q ++ ((b :: bs) ++ [32] ++ Go.Lib.itoa n)=rtF 0 (wdR.take (i+1)) ((numsT t).take (i+1))):=Lib.hid (by
       rw [rtF_next _ _ 0 i _ _ HX.out.1 HX.out.2.1,HS.out,HQ.out,Nat.zero_add]
       simp only [List.append_assoc])
      clear e2 cc l2 l3 l4;go_wp2_with fail;go_roundg (23 - (i+1))
      case rel=>exact ⟨i+1,by omega,by go_num,by rw [HE.out],HC.out.drew⟩
      case measure=>have:=HK.out;omega
    ·have hb':b.toNat≠10:=fun e=>hb (UInt8.toNat_inj.1 e)
     have t5:(b.toNat != 10)=true:=by simpa using hb'
     have t6:((b.toNat:Int) != 10)=true:=by simp;omega
     have t7:(b.toNat == 10)=false:=beq_eq_false_iff_ne.2 hb'
     have t8:((b.toNat:Int) == 10)=false:=beq_eq_false_iff_ne.2 (by omega)
     clear hb';go_upto_region 8 with fail;have e1:(⟨s.toArray⟩:ByteArray) ++ ⟨#[32]⟩=⟨(s ++ [32]).toArray⟩:=bs_append s [32]
     simp only [e1]
     obtain ⟨q,hq⟩:∃q,s ++ [32]=q:=⟨_,rfl⟩
     have hql:q.length≤23*202+1:=by rw [←hq,List.length_append];exact Nat.add_le_add_right hsl 1
     have HQ:Hid (q=s ++ sepR i (b :: bs)):=Lib.hid (by rw [←hq];unfold sepR;rw [if_neg h0,if_neg (by simpa using hb)])
     simp only [hq]
     clear e1 hq h0 hz t3 t4 t5 t6 t7 t8 l1 x1 xl2 hb;have cc:=Chg.refl NoB wr
     have l4:(9223372036854775807<q.length+(bs.length+1+1+(Go.Lib.itoa n).length))=False:=eq_false (by have:=HX.out.2.2.1;omega)
     refine wp_region_mix 10 [(true,0),(true,1),(true,2),(true,3),(true,4),(true,5),(true,6),(false,7),(true,8),(true,9)] (fun w'=>Chg NoB wr w') (by kernel_rfl) (by kernel_rfl) (fun _ _ _ _ _ h=>h) (cc.drew) ?_
     simp only [pickMix_nil,pickMix_cons,Option.getD_some,List.getElem?_toArray,List.getElem?_cons_zero,List.getElem?_cons_succ,List.cons_append,List.nil_append,List.drop_succ_cons,List.drop_zero]
     iterate 7
      refine wpMix_take rfl ?_;apply Exists.intro;refine ⟨fun wS hS=>?_,?_⟩
      ·try dsimp only at hS
       have cS:=hS
       go_simp;try rfl
      simp only [Act.put,List.setIfInBounds_toArray,List.set_cons_zero,List.set_cons_succ]
     refine wpMix_force rfl (fun K hK=>?_)
     go_simp;with_reducible refine (HNum.out _).mono ?_
     rintro e wN ⟨rfl,hwN⟩;subst hwN;refine hK _ _ cc.drew ?_
     clear hK K;iterate 2
      refine wpMix_take rfl ?_;apply Exists.intro;refine ⟨fun wS hS=>?_,?_⟩
      ·try dsimp only at hS
       have cS:=hS
       go_simp;try rfl
      simp only [Act.put,List.setIfInBounds_toArray,List.set_cons_zero,List.set_cons_succ]
     refine wpMix_nil ?_
     all_goals
      have e2:(⟨q.toArray⟩:ByteArray) ++ (⟨(b :: bs).toArray⟩ ++ ⟨#[32]⟩ ++ ⟨(Go.Lib.itoa n).toArray⟩)=⟨(q ++ ((b :: bs) ++ [32] ++ Go.Lib.itoa n)).toArray⟩:=by
       have e3:(⟨(b :: bs).toArray⟩:ByteArray) ++ ⟨#[32]⟩=⟨((b :: bs) ++ [32]).toArray⟩:=bs_append _ [32]
       rw [e3,bs_append,bs_append]
      simp only [e2]
      have HE:Hid (q ++ ((b :: bs) ++ [32] ++ Go.Lib.itoa n)=rtF 0 (wdR.take (i+1)) ((numsT t).take (i+1))):=Lib.hid (by
       rw [rtF_next _ _ 0 i _ _ HX.out.1 HX.out.2.1,HS.out,HQ.out,Nat.zero_add]
       simp only [List.append_assoc])
      clear e2 cc l2 l3 l4;go_wp2_with fail;go_roundg (23 - (i+1))
      case rel=>exact ⟨i+1,by omega,by go_num,by rw [HE.out],HC.out.drew⟩
      case measure=>have:=HK.out;omega
  ·have t1:decide ((i:Int)<23)=false:=decide_eq_false (by omega)
   have t2:decide (i<23)=false:=decide_eq_false hi
   obtain rfl:i=23:=by have:=HK.out;omega
   rw [show wdR.take 23=wdR from rfl,show (numsT t).take 23=numsT t from rfl]
   obtain ⟨s,hs⟩:∃s,rtF 0 wdR (numsT t)=s:=⟨_,rfl⟩
   have hsl:s.length≤23*202:=by rw [←hs];exact rt_len t HI.out 23
   rw [hs]
   have l1:(9223372036854775807<s.length+1)=False:=eq_false (by omega)
   have e1:(⟨s.toArray⟩:ByteArray) ++ ⟨#[10]⟩=⟨(s ++ [10]).toArray⟩:=bs_append s [10]
   have HC3:=Lib.hid (HC2.out.step hC)
   have HS3:=Lib.hid hs
   clear hsl hC hs;go_wp2_with fail;go_ret;refine ⟨show Ending.returned (Value.string ((⟨s.toArray⟩:ByteArray) ++ ⟨#[10]⟩))=_ from ?_,HC3.out⟩
   rw [e1,HS3.out]
def smI (n:Int):Bool:=decide (-1099511627776≤n∧n≤1099511627776)
def smallT (t:Nat→Int):Bool:=(numsT t).all smI && decide (t 16=0)
theorem small_bd {t:Nat→Int} (h:smallT t=true) (hz:∀k,24≤k→t k=0):∀k,-1099511627776≤t k∧t k≤1099511627776:=by
 unfold smallT numsT smI at h
 simp only [List.all_cons,List.all_nil,Bool.and_eq_true,decide_eq_true_eq,Bool.and_true] at h
 intro k;by_cases hk:24≤k
 ·rw [hz k hk];omega
 ·have:k=0∨k=1∨k=2∨k=3∨k=4∨k=5∨k=6∨k=7∨k=8∨k=9∨k=10∨k=11∨k=12∨k=13∨k=14∨k=15∨k=16∨k=17∨k=18∨k=19∨k=20∨k=21∨k=22∨k=23:=by omega
  rcases this with h | h | h | h | h | h | h | h | h | h | h | h | h | h | h | h | h | h | h | h | h | h | h | h <;> subst h <;> omega
theorem small_any {w:World} (t:Nat→Int):Calls Tryz.prog 8 #[.agg (tallyC t)] w (RetW (.bool (smallT t)) fun w'=>Chg NoB w w'):=by
 obtain ⟨sb,hsb⟩:∃b,smallT t=b:=⟨_,rfl⟩
 rw [hsb]
 have HSB:=Lib.hid hsb
 clear hsb;have hB:=Blk.new w (tallyC t) 26
 have C0:Chg NoB w (w.alloc (.cells (tallyC t) 26)):=(Chg.refl NoB w).alloc _
 have HN:=Lib.hid fun w':World=>numbers_any (w:=w') t
 unfold tallyC at hB C0 HN ⊢
 generalize hw0:w.alloc (.cells #[.int .i64 (t 0),.int .i64 (t 1),.int .i64 (t 2),.int .i64 (t 3),.int .i64 (t 4),.int .i64 (t 5),.int .i64 (t 6),.int .i64 (t 7),.int .i64 (t 8),.int .i64 (t 9),.int .i64 (t 10),.int .i64 (t 11),.int .i64 (t 12),.int .i64 (t 13),.int .i64 (t 14),.int .i64 (t 15),.int .i64 (t 16),.int .i64 (t 17),.int .i64 (t 18),.int .i64 (t 19),.int .i64 (t 20),.int .i64 (t 21),.int .i64 (t 22),.int .i64 (t 23)] 26)=w0 at *;have HC0:=Lib.hid C0
 have HB:=Lib.hid hB
 clear hB C0;go_enter Tryz.func8,Tryz.ntmps8;go_upto_region 1 with fail;clear hw0;generalize w.heap.size=tb at *;have hr:w0.rangeAt tb 0 [.int .i64 (t 0),.int .i64 (t 1),.int .i64 (t 2),.int .i64 (t 3),.int .i64 (t 4),.int .i64 (t 5),.int .i64 (t 6),.int .i64 (t 7),.int .i64 (t 8),.int .i64 (t 9),.int .i64 (t 10),.int .i64 (t 11),.int .i64 (t 12),.int .i64 (t 13),.int .i64 (t 14),.int .i64 (t 15),.int .i64 (t 16),.int .i64 (t 17),.int .i64 (t 18),.int .i64 (t 19),.int .i64 (t 20),.int .i64 (t 21),.int .i64 (t 22),.int .i64 (t 23)]:=fun j v hj=>by rw [Nat.zero_add];exact HB.out.cell' ((List.getElem?_toArray ..).trans hj)
 go_wp2_with (first | (refine wpList_load_mid rfl _ _ rfl tb 0 rfl _ _ hr Tryz.underlying26 rfl rt_talI ?_))
 go_wp2_with fail;refine (HN.out _).mono ?_
 rintro e w2 ⟨nv,rfl,hO,c2⟩;have HC2:=Lib.hid (HC0.out.step c2)
 have HB2:=Lib.hid (c2.blk0 HB.out)
 have hS:=hO.sl
 obtain ⟨hl0,np,nc,rfl,hnc,hcell⟩:=hS
 obtain ⟨ng,no,rfl,-,hgl,hcl⟩:=hcell (by omega)
 have HNc:Hid (∀i n,(numsT t)[i]? = some n→w2.cell? ⟨ng,no+i,none⟩=some (.int .i64 n)):=Lib.hid fun i n h=>hcl i _ (by rw [List.getElem?_map,h];rfl)
 have HGL:=Lib.hid hgl
 clear hO hcell hcl hl0 hnc c2 hgl hr HN HB HC0;go_wp2_with fail;go_loopg [8] 23 (fun k iv wr=>∃i:Nat,i+k=23∧iv = .int .i64 i∧((numsT t).take i).all smI=true∧wr=w2)
 case atStart=>exact ⟨0,by omega,rfl,rfl,rfl⟩
 case round=>
  obtain ⟨i,hk,rfl,ha,hwr⟩:=hrel
  rename World=>wr;subst hwr;have HK:=Lib.hid hk
  have HA:=Lib.hid ha
  clear hk ha;by_cases hi:i<23
  ·have t1:decide ((i:Int)<23)=true:=decide_eq_true (by omega)
   have t2:decide (i<23)=true:=decide_eq_true hi
   obtain ⟨n,hn⟩:∃n,(numsT t)[i]? = some n:=⟨_,List.getElem?_eq_getElem (by show i<23;exact hi)⟩
   have x1:=HNc.out i n hn
   have xl2:=HGL.out
   have HX:=Lib.hid hn
   have hall:∀b,smI n=b→((numsT t).take (i+1)).all smI=b:=fun b hb=>by
    rw [List.take_add_one,hn,List.all_append,HA.out]
    simpa using hb
   have hno:smI n=false→smallT t=false:=fun h=>by
    unfold smallT
    have:(numsT t).all smI=false:=by
     rw [Bool.eq_false_iff]
     intro e;have:=List.all_eq_true.1 e n (List.mem_of_getElem? hn)
     rw [h] at this
     cases this
    rw [this];rfl
   have HALL:=Lib.hid (And.intro hall hno)
   clear hn hall hno;by_cases h1:1099511627776<n
   ·have t3:decide (1099511627776<n)=true:=decide_eq_true h1
    obtain rfl:sb=false:=HSB.out.symm.trans (HALL.out.2 (by unfold smI;exact decide_eq_false (by omega)))
    go_wp2_with fail;go_ret;exact ⟨rfl,HC2.out⟩
   ·have t3:decide (1099511627776<n)=false:=decide_eq_false h1
    by_cases h2:n < -1099511627776
    ·have t4:decide (n < -1099511627776)=true:=decide_eq_true h2
     obtain rfl:sb=false:=HSB.out.symm.trans (HALL.out.2 (by unfold smI;exact decide_eq_false (by omega)))
     go_wp2_with fail;go_ret;exact ⟨rfl,HC2.out⟩
    ·have t4:decide (n < -1099511627776)=false:=decide_eq_false h2
     have HA2:=Lib.hid (HALL.out.1 true (by unfold smI;exact decide_eq_true (by omega)))
     go_wp2_with fail;go_roundg (23 - (i+1))
     case rel=>exact ⟨i+1,by omega,by go_num,HA2.out,rfl⟩
     case measure=>have:=HK.out;omega
  ·have t1:decide ((i:Int)<23)=false:=decide_eq_false (by omega)
   have t2:decide (i<23)=false:=decide_eq_false hi
   obtain rfl:i=23:=by have:=HK.out;omega
   have hall:(numsT t).all smI=true:=HA.out
   have hsm:smallT t=(t 16 == 0):=by
    unfold smallT
    rw [hall,Bool.true_and,Bool.eq_iff_iff,decide_eq_true_eq,beq_iff_eq]
   obtain rfl:sb=(t 16 == 0):=HSB.out.symm.trans hsm
   have x0:=HB2.out.cell' (i:=16) (v:=.int .i64 (t 16)) rfl
   have xl:=HB2.out.lt
   clear hall hsm;go_wp2_with fail;go_ret;exact ⟨rfl,HC2.out⟩
theorem mq_prog:progL (preI ++ [⟨29,0,1,1,0⟩])=mq:=by decide
theorem tl7_val:talV (tlF 7) = .agg #[.int .i64 0,.int .i64 0,.int .i64 3,.int .i64 1,.int .i64 0,.int .i64 4,.int .i64 0,.int .i64 0,.int .i64 0,.int .i64 0,.int .i64 0,.int .i64 1,.int .i64 2,.int .i64 0,.int .i64 0,.int .i64 0,.int .i64 0,.int .i64 0,.int .i64 0,.int .i64 0,.int .i64 0,.int .i64 0,.int .i64 0,.int .i64 0]:=by rfl
theorem tl7_c:tallyC (tlF 7) = #[.int .i64 0,.int .i64 0,.int .i64 3,.int .i64 1,.int .i64 0,.int .i64 4,.int .i64 0,.int .i64 0,.int .i64 0,.int .i64 0,.int .i64 0,.int .i64 1,.int .i64 2,.int .i64 0,.int .i64 0,.int .i64 0,.int .i64 0,.int .i64 0,.int .i64 0,.int .i64 0,.int .i64 0,.int .i64 0,.int .i64 0,.int .i64 0]:=by rfl
theorem tl7_sum:tallyC (sumT (tlF 7) (tlF 7)) = #[.int .i64 0,.int .i64 0,.int .i64 6,.int .i64 2,.int .i64 0,.int .i64 8,.int .i64 0,.int .i64 0,.int .i64 0,.int .i64 0,.int .i64 0,.int .i64 2,.int .i64 4,.int .i64 0,.int .i64 0,.int .i64 0,.int .i64 0,.int .i64 0,.int .i64 0,.int .i64 0,.int .i64 0,.int .i64 0,.int .i64 0,.int .i64 0]:=by rfl
theorem tl7_fld (w:World):(Instr.field 26 (.agg #[.int .i64 0,.int .i64 0,.int .i64 6,.int .i64 2,.int .i64 0,.int .i64 8,.int .i64 0,.int .i64 0,.int .i64 0,.int .i64 0,.int .i64 0,.int .i64 2,.int .i64 4,.int .i64 0,.int .i64 0,.int .i64 0,.int .i64 0,.int .i64 0,.int .i64 0,.int .i64 0,.int .i64 0,.int .i64 0,.int .i64 0,.int .i64 0]) 2).run Tryz.prog w = .ok (.int .i64 4) w:=by kernel_rfl
theorem five_guard:Tryz.prog.eqGuardType Tryz.prog.depth 22=false:=by kernel_rfl
theorem five_eq (w:World):(Op.equalIn 10000 22 (.agg #[.int .i64 0,.int .i64 0,.int .i64 3,.int .i64 1,.int .i64 0]) (.agg #[.int .i64 0,.int .i64 0,.int .i64 3,.int .i64 1,.int .i64 0])).run Tryz.prog w = .ok true w:=by kernel_rfl
theorem tl7_len:100<(textT (tlF 7)).length:=by decide +kernel
def dsM (i:Nat):List Nat:=if i=0 then progB mq else []
theorem wpList_load_g {P:Program} {ops:Array Oper} {rest:List Oper} {op:Oper} {a:Act} {w:World} {Q:Exit→Act→World→Prop} (hw:Region.wanted op (yielded ops a.tmps)=true) (ty:TypeId) (x:Operand) (ho:op.op = .load ty x)
  (b o:Nat) (hx:a.eval x = .pointer (some ⟨b,o,none⟩)) (cs:List Value) (d:TypeDesc) (hc:w.rangeAt b o cs)
  (hu:P.underlying ty=some d) (hd:d.isRow=true) (hi:(P.info? ty).map (·.size)=some cs.length)
  (h:wpList P ops Q rest (a.put op.dst (.agg cs.toArray)) w):wpList P ops Q (op :: rest) a w:=by
 unfold wpList
 rw [if_pos hw]
 exact .inl (wp_load_mid ty x ho b o hx cs d hc hu hd hi h)
theorem MSt.start {w0 w2 w3 w4:World} {F0:Nat→Prop} {Fn:Nat→Nat→Prop} {cb:Nat} {nb:Nat→Nat} (hQ:QC w2 F0 Fn cb 2 1 nb x0 (yNew 1 dsM)) (hM:MtAt w3 w2.heap.size cb (fun _=>0)) (hC:Chg NoB w2 w3) (h4:w4=w3.alloc (.cells #[.int .i64 0,.int .i64 0,.int .i64 0,.int .i64 0,.int .i64 0,.int .i64 0,.int .i64 0,.int .i64 0,.int .i64 0,.int .i64 0,.int .i64 0,.int .i64 0,.int .i64 1,.int .i64 0,.int .i64 0,.int .i64 6,.int .i64 0,.int .i64 0,.int .i64 0,.int .i64 5,.int .i64 0] 57)) (h0:Chg NoB w0 w2) (hlo:∀k,InC F0 Fn 2 k→w0.heap.size≤k) :
  MSt w0 w4 w2.heap.size cb (fun k=>k=w3.heap.size) (.slice (some ⟨w3.heap.size,0,none⟩) 7 7) scF tl0 (PA mc0 0):=by
 subst h4;have c4:Chg NoB w3 (w3.alloc (.cells #[.int .i64 0,.int .i64 0,.int .i64 0,.int .i64 0,.int .i64 0,.int .i64 0,.int .i64 0,.int .i64 0,.int .i64 0,.int .i64 0,.int .i64 0,.int .i64 0,.int .i64 1,.int .i64 0,.int .i64 0,.int .i64 6,.int .i64 0,.int .i64 0,.int .i64 0,.int .i64 5,.int .i64 0] 57)):=(Chg.refl NoB w3).alloc _
 have hz:=hC.size
 have hm:=hM.lt
 refine ⟨c4.blk0 hM,Sl.fresh w3 (actsC scF 7) 57 7 rfl,fun k e=>⟨by rw [e,World.size_alloc];omega,by rw [e];omega⟩,(((h0.step hC).step c4)).mono fun _ _ e=>e.elim,h0.size,InC F0 Fn 2,nb,⟨x0,F0,Fn,_,(hQ.chg0 hC).chg0 c4,⟨⟨Nat.le_refl 0,Nat.le_refl 0,Nat.le_refl 0,Nat.le_refl 0,Nat.le_refl 0⟩,rfl,nb_made mq_r (by decide),rfl,rfl⟩,fun k hk=>.inl hk⟩,fun k hk=>?_,fun e=>absurd (hQ.lt _ e) (Nat.lt_irrefl _),fun k e1 e2=>?_,hlo⟩
 ·have:=hQ.lt k hk;rw [World.size_alloc];omega
 ·have:=hQ.lt k e2;rw [e1] at this;omega
theorem first35_any {w:World} (L:Lb w):Calls Tryz.prog 5 #[] w (RetW (.bool true) fun w'=>Chg NoB w w'):=by
 have HL:=Lib.hid L
 clear L;have HU:=Lib.hid (usual_any 2 1 w)
 go_enter Tryz.func5,Tryz.ntmps5;go_wp2_with fail;with_reducible refine HU.out.mono ?_
 rintro e w1 ⟨rfl,c1⟩;have HC1:=Lib.hid c1
 have HI:Hid (Sl (w1.alloc (.cells #[.int .i64 29,.int .i64 0,.int .i64 1,.int .i64 1,.int .i64 0] 50)) (fun k=>k=w1.heap.size) 5 (.slice (some ⟨w1.heap.size,0,none⟩) 1 1) 1 (icells [⟨29,0,1,1,0⟩])):=Lib.hid (Sl.fresh w1 (icells [⟨29,0,1,1,0⟩]) 50 1 (size:=5) rfl)
 have HPr:=Lib.hid (program_any [⟨29,0,1,1,0⟩] _ _ HI.out (by decide))
 rw [mq_prog] at HPr
 have HC2:=Lib.hid (c1.alloc (.cells #[.int .i64 29,.int .i64 0,.int .i64 1,.int .i64 1,.int .i64 0] 50))
 clear c1 HI HU;unfold confC
 go_wp2_with fail;with_reducible refine HPr.out.mono ?_
 rintro e w2 ⟨bv,rfl,hO,c2⟩;have HO:=Lib.hid hO
 have HC3:=Lib.hid (HC2.out.step c2)
 have c3:=(Chg.refl NoB w2).alloc (.cells #[bv] 46)
 have HC4:=Lib.hid (HC3.out.step c3)
 have HNw:=Lib.hid (cNewR (w:=w2.alloc (.cells #[bv] 46)) 2 1 (.inl rfl) (by decide) (by decide) 1 (by decide) (.slice (some ⟨w2.heap.size,0,none⟩) 1 1) _ (fun _=>bv) (fun _ k=>k<w2.heap.size+1) dsM (Sl.fresh w2 [bv] 46 1 rfl) (fun i hi=>(by rw [show dsM i=progB mq from if_pos (by omega)];exact (hO.sl.chg0 c3).monoIn fun k hk _=>by rw [World.size_alloc] at hk;exact hk)) (fun i k hi hk=>by rw [World.size_alloc];exact hk) (fun i x hx=>by
  unfold dsM at hx
  split at hx
  ·exact progB_lt mq x hx
  ·cases hx) (fun i=>by
  unfold dsM
  split
  ·decide
  ·decide) (fun i hi=>if_neg (by omega)))
 obtain ⟨bp,bc,hbv⟩:=hO.form
 subst hbv;clear hO c2 c3 HPr HC2 HC3;replace HNw:Hid (Calls Tryz.prog 15 #[.agg #[.int .i64 2,.int .i64 1,.int .i64 1,.int .i64 2,.int .i64 2,.int .i64 2,.int .i64 2,.int .i64 3,.int .i64 12],.slice (some ⟨w2.heap.size,0,none⟩) 1 1] (w2.alloc (.cells #[.slice bp (progB mq).length bc] 46)) _):=HNw
 go_wp2_with fail;with_reducible refine HNw.out.mono ?_
 rintro e w3 ⟨cv,rfl,cb,F0,Fn,nb,rfl,hQ,hF,c4⟩;have HQ:=Lib.hid hQ
 have HC5:=Lib.hid (HC4.out.step c4)
 have HMn:=Lib.hid (mNew_any w3 cb)
 clear hQ c4 HNw HO;go_wp2_with fail;with_reducible refine HMn.out.mono ?_
 rintro e w4 ⟨rfl,hM,c5⟩;have HMS:=Lib.hid (script_any (MSt.start (w0:=w) HQ.out hM c5 rfl HC5.out (fun k hk=>Nat.le_trans HC4.out.size (hF k hk))))
 have HC6:=Lib.hid ((HC5.out.step c5).alloc (.cells #[.int .i64 0,.int .i64 0,.int .i64 0,.int .i64 0,.int .i64 0,.int .i64 0,.int .i64 0,.int .i64 0,.int .i64 0,.int .i64 0,.int .i64 0,.int .i64 0,.int .i64 1,.int .i64 0,.int .i64 0,.int .i64 6,.int .i64 0,.int .i64 0,.int .i64 0,.int .i64 5,.int .i64 0] 57))
 have HW:Hid (w3.heap.size<w4.heap.size):=Lib.hid hM.lt
 clear hM c5 HMn HQ HC5 HC4 hF;go_wp2_with fail;with_reducible refine HMS.out.mono ?_
 rintro e w5 ⟨rfl,hS⟩;have HM5:=Lib.hid hS.m
 have HC7:=Lib.hid (hS.ch.mono (S':=fun _=>False) fun k hk e=>absurd e (Nat.not_le_of_lt hk))
 clear hS HMS;have HTl:=Lib.hid (mTally_any HM5.out)
 rw [tl7_val] at HTl
 go_wp2_with fail;with_reducible refine HTl.out.mono ?_
 rintro e w6 ⟨rfl,c6⟩;have HC8:=Lib.hid (HC7.out.step c6)
 clear c6 HTl HM5 HC7;have hB0:=Blk.new w6 #[.int .i64 0,.int .i64 0,.int .i64 0,.int .i64 0,.int .i64 0,.int .i64 0,.int .i64 0,.int .i64 0,.int .i64 0,.int .i64 0,.int .i64 0,.int .i64 0,.int .i64 0,.int .i64 0,.int .i64 0,.int .i64 0,.int .i64 0,.int .i64 0,.int .i64 0,.int .i64 0,.int .i64 0,.int .i64 0,.int .i64 0,.int .i64 0] 26
 have c7:=(Chg.refl NoB w6).alloc (.cells #[.int .i64 0,.int .i64 0,.int .i64 0,.int .i64 0,.int .i64 0,.int .i64 0,.int .i64 0,.int .i64 0,.int .i64 0,.int .i64 0,.int .i64 0,.int .i64 0,.int .i64 0,.int .i64 0,.int .i64 0,.int .i64 0,.int .i64 0,.int .i64 0,.int .i64 0,.int .i64 0,.int .i64 0,.int .i64 0,.int .i64 0,.int .i64 0] 26)
 generalize hw7:w6.alloc (.cells #[.int .i64 0,.int .i64 0,.int .i64 0,.int .i64 0,.int .i64 0,.int .i64 0,.int .i64 0,.int .i64 0,.int .i64 0,.int .i64 0,.int .i64 0,.int .i64 0,.int .i64 0,.int .i64 0,.int .i64 0,.int .i64 0,.int .i64 0,.int .i64 0,.int .i64 0,.int .i64 0,.int .i64 0,.int .i64 0,.int .i64 0,.int .i64 0] 26)=w7 at *;have ht:w7.there w6.heap.size 0 24:=blk_there hB0 rfl
 have HS:=store_all hB0 [.int .i64 0,.int .i64 0,.int .i64 3,.int .i64 1,.int .i64 0,.int .i64 4,.int .i64 0,.int .i64 0,.int .i64 0,.int .i64 0,.int .i64 0,.int .i64 1,.int .i64 2,.int .i64 0,.int .i64 0,.int .i64 0,.int .i64 0,.int .i64 0,.int .i64 0,.int .i64 0,.int .i64 0,.int .i64 0,.int .i64 0,.int .i64 0] rfl
 have HC9:=Lib.hid (HC8.out.step (chg_fresh c7 HS.2 (Nat.le_refl _)))
 have HB9:=Lib.hid HS.1
 clear HS c7 hB0 HC8;go_upto_region 6 with (first | (refine wpList_store_mid rfl _ _ _ rfl w6.heap.size 0 #[.int .i64 0,.int .i64 0,.int .i64 3,.int .i64 1,.int .i64 0,.int .i64 4,.int .i64 0,.int .i64 0,.int .i64 0,.int .i64 0,.int .i64 0,.int .i64 1,.int .i64 2,.int .i64 0,.int .i64 0,.int .i64 0,.int .i64 0,.int .i64 0,.int .i64 0,.int .i64 0,.int .i64 0,.int .i64 0,.int .i64 0,.int .i64 0] rfl rfl ht tally_info (by simp [Value.oneCell']) ?_))
 obtain ⟨w8,hw8⟩:∃x,w7.setCells w6.heap.size 0 [.int .i64 0,.int .i64 0,.int .i64 3,.int .i64 1,.int .i64 0,.int .i64 4,.int .i64 0,.int .i64 0,.int .i64 0,.int .i64 0,.int .i64 0,.int .i64 1,.int .i64 2,.int .i64 0,.int .i64 0,.int .i64 0,.int .i64 0,.int .i64 0,.int .i64 0,.int .i64 0,.int .i64 0,.int .i64 0,.int .i64 0,.int .i64 0]=x:=⟨_,rfl⟩
 simp only [hw8]
 rw [hw8] at HC9 HB9
 have q0:=HB9.out.cell' (i:=0) (v:=.int .i64 0) rfl
 have q1:=HB9.out.cell' (i:=1) (v:=.int .i64 0) rfl
 have q2:=HB9.out.cell' (i:=2) (v:=.int .i64 3) rfl
 have q3:=HB9.out.cell' (i:=3) (v:=.int .i64 1) rfl
 have q4:=HB9.out.cell' (i:=4) (v:=.int .i64 0) rfl
 have q11:=HB9.out.cell' (i:=11) (v:=.int .i64 1) rfl
 have q12:=HB9.out.cell' (i:=12) (v:=.int .i64 2) rfl
 have ql:=HB9.out.lt
 have hr:w8.rangeAt w6.heap.size 0 [.int .i64 0,.int .i64 0,.int .i64 3,.int .i64 1,.int .i64 0,.int .i64 4,.int .i64 0,.int .i64 0,.int .i64 0,.int .i64 0,.int .i64 0,.int .i64 1,.int .i64 2,.int .i64 0,.int .i64 0,.int .i64 0,.int .i64 0,.int .i64 0,.int .i64 0,.int .i64 0,.int .i64 0,.int .i64 0,.int .i64 0,.int .i64 0]:=fun j v hj=>by rw [Nat.zero_add];exact HB9.out.cell' ((List.getElem?_toArray ..).trans hj)
 have hsm:=sum_any (w:=w8) (t:=tlF 7) (u:=tlF 7) (fun k=>by have:=tlF_b 7 k;omega) (fun k=>by have:=tlF_b 7 k;omega)
 rw [tl7_c,tl7_sum] at hsm
 have HSm:=Lib.hid hsm
 have htx:∀w',Chg NoB w8 w'→Calls Tryz.prog _ #[.agg (tallyC (tlF 7))] w' (RetW (.string ⟨(textT (tlF 7)).toArray⟩) fun w''=>Chg NoB w' w''):=fun w' c=>tText_any ((HL.out.chg0 HC9.out).chg0 c) (tlF 7) (fun k=>by have:=tlF_b 7 k;exact ⟨by omega,by omega⟩)
 rw [tl7_c] at htx
 have htl:=tl7_len
 generalize textT (tlF 7)=TX at *;have HTx:=Lib.hid htx
 have fld:=tl7_fld
 clear hsm htx;have f1:=five_guard
 have f2:=five_eq
 clear hw8 ht hw7;go_wp2_with (first | (refine wpList_load_g (by rfl) _ _ rfl w6.heap.size 0 rfl [.int .i64 0,.int .i64 0,.int .i64 3,.int .i64 1,.int .i64 0,.int .i64 4,.int .i64 0,.int .i64 0,.int .i64 0,.int .i64 0,.int .i64 0,.int .i64 1,.int .i64 2,.int .i64 0,.int .i64 0,.int .i64 0,.int .i64 0,.int .i64 0,.int .i64 0,.int .i64 0,.int .i64 0,.int .i64 0,.int .i64 0,.int .i64 0] _ hr Tryz.underlying26 rfl tally_info ?_))
 with_reducible refine HSm.out.mono ?_
 rintro e w9 ⟨rfl,c9⟩;have hr9:w9.rangeAt w6.heap.size 0 [.int .i64 0,.int .i64 0,.int .i64 3,.int .i64 1,.int .i64 0,.int .i64 4,.int .i64 0,.int .i64 0,.int .i64 0,.int .i64 0,.int .i64 0,.int .i64 1,.int .i64 2,.int .i64 0,.int .i64 0,.int .i64 0,.int .i64 0,.int .i64 0,.int .i64 0,.int .i64 0,.int .i64 0,.int .i64 0,.int .i64 0,.int .i64 0]:=fun j v hj=>c9.cell (hr j v hj) id
 have HT9:=Lib.hid (HTx.out w9 c9)
 have HC10:=Lib.hid (HC9.out.step c9)
 have ql9:=Nat.lt_of_lt_of_le ql c9.size
 have tx1:decide (100<TX.length)=true:=decide_eq_true htl
 have tx2:decide ((100:Int)<(TX.length:Int))=true:=decide_eq_true (by omega)
 clear c9 hr q0 q1 q2 q3 q4 q11 q12 ql HSm HTx HB9;go_wp2_with (first | (refine wpList_load_g (by rfl) _ _ rfl w6.heap.size 0 rfl [.int .i64 0,.int .i64 0,.int .i64 3,.int .i64 1,.int .i64 0,.int .i64 4,.int .i64 0,.int .i64 0,.int .i64 0,.int .i64 0,.int .i64 0,.int .i64 1,.int .i64 2,.int .i64 0,.int .i64 0,.int .i64 0,.int .i64 0,.int .i64 0,.int .i64 0,.int .i64 0,.int .i64 0,.int .i64 0,.int .i64 0,.int .i64 0] _ hr9 Tryz.underlying26 rfl tally_info ?_))
 with_reducible refine HT9.out.mono ?_
 rintro e w10 ⟨rfl,c10⟩;have HC11:=Lib.hid (HC10.out.step c10)
 clear c10 HT9 HC10 hr9;go_wp2_with fail;go_ret;exact ⟨rfl,HC11.out⟩
theorem exec_loadM {P:Program} {w:World} {op:Oper} {a:Act} {v:Value} (ty:TypeId) (x:Operand) (ho:op.op = .load ty x) {p:Value} (hx:a.eval x=p) (h:(Instr.loadAt ty p).run P w = .ok v w):(execOp a.eval op).run P w = .ok (.value v) w:=by
 unfold execOp
 simp only [ho,hx,Sem.run_bind,Sem.run_pure,Result.andThen_ok,h]
theorem tal_load {w:World} {b:Nat} {t:Nat→Int} (h:Blk w b (tallyC t) 26):(Instr.loadAt 26 (.pointer (some ⟨b,0,none⟩))).run Tryz.prog w = .ok (.agg #[.int .i64 (t 0),.int .i64 (t 1),.int .i64 (t 2),.int .i64 (t 3),.int .i64 (t 4),.int .i64 (t 5),.int .i64 (t 6),.int .i64 (t 7),.int .i64 (t 8),.int .i64 (t 9),.int .i64 (t 10),.int .i64 (t 11),.int .i64 (t 12),.int .i64 (t 13),.int .i64 (t 14),.int .i64 (t 15),.int .i64 (t 16),.int .i64 (t 17),.int .i64 (t 18),.int .i64 (t 19),.int .i64 (t 20),.int .i64 (t 21),.int .i64 (t 22),.int .i64 (t 23)]) w:=
 run_loadAt_mid (P:=Tryz.prog) w b 0 26 [.int .i64 (t 0),.int .i64 (t 1),.int .i64 (t 2),.int .i64 (t 3),.int .i64 (t 4),.int .i64 (t 5),.int .i64 (t 6),.int .i64 (t 7),.int .i64 (t 8),.int .i64 (t 9),.int .i64 (t 10),.int .i64 (t 11),.int .i64 (t 12),.int .i64 (t 13),.int .i64 (t 14),.int .i64 (t 15),.int .i64 (t 16),.int .i64 (t 17),.int .i64 (t 18),.int .i64 (t 19),.int .i64 (t 20),.int .i64 (t 21),.int .i64 (t 22),.int .i64 (t 23)] _ (fun j v hj=>by rw [Nat.zero_add];exact h.cell' ((List.getElem?_toArray ..).trans hj)) Tryz.underlying26 rfl rt_talI
theorem sum_nums (t u:Nat→Int) (i:Nat) {x y z:Int} (hx:(numsT t)[i]? = some x) (hy:(numsT u)[i]? = some y) (hz:(numsT (sumT t u))[i]? = some z):z=x+y:=by
 have h:numsT (sumT t u)=List.zipWith (· + ·) (numsT t) (numsT u):=by rfl
 rw [h,List.getElem?_zipWith,hx,hy] at hz
 simpa using hz.symm
theorem meterTexts_any {w:World} (L:Lb w) (t u:Nat→Int) (ht:∀k,i64 (t k)) (hu:∀k,i64 (u k)) (tz:∀k,24≤k→t k=0) (uz:∀k,24≤k→u k=0):Calls Tryz.prog 3 #[.agg (tallyC t),.agg (tallyC u)] w (RetW (.bool true) fun w'=>Chg NoB w w'):=by
 have HF:=Lib.hid fun (w':World) (c:Chg NoB w w')=>first35_any (L.chg0 c)
 have HT:=Lib.hid fun (w':World) (c:Chg NoB w w')=>tText_any (L.chg0 c) t ht
 have HRT:=Lib.hid fun (w':World)=>rText_any (w:=w') t ht
 have HSt:=Lib.hid fun (w':World)=>small_any (w:=w') t
 have HSu:=Lib.hid fun (w':World)=>small_any (w:=w') u
 have HNt:=Lib.hid fun (w':World)=>numbers_any (w:=w') t
 have HNu:=Lib.hid fun (w':World)=>numbers_any (w:=w') u
 have HNs:=Lib.hid fun (w':World)=>numbers_any (w:=w') (sumT t u)
 have HSM:=Lib.hid fun (w':World) (h1:smallT t=true) (h2:smallT u=true)=>sum_any (w:=w') (small_bd h1 tz) (small_bd h2 uz)
 have hA:=(Blk.new w (tallyC t) 26).alloc (.cells (tallyC u) 26)
 have hB:=Blk.new (w.alloc (.cells (tallyC t) 26)) (tallyC u) 26
 have c0:Chg NoB w ((w.alloc (.cells (tallyC t) 26)).alloc (.cells (tallyC u) 26)):=((Chg.refl NoB w).alloc _).alloc _
 have hte:=text_eq t
 rw [World.size_alloc] at hB
 unfold tallyC at hA hB c0 HT HRT HSt HSu HNt HNu HNs HSM ⊢
 have HE:=Lib.hid hte
 clear L ht hu tz uz hte;generalize hw0:(w.alloc (.cells #[.int .i64 (t 0),.int .i64 (t 1),.int .i64 (t 2),.int .i64 (t 3),.int .i64 (t 4),.int .i64 (t 5),.int .i64 (t 6),.int .i64 (t 7),.int .i64 (t 8),.int .i64 (t 9),.int .i64 (t 10),.int .i64 (t 11),.int .i64 (t 12),.int .i64 (t 13),.int .i64 (t 14),.int .i64 (t 15),.int .i64 (t 16),.int .i64 (t 17),.int .i64 (t 18),.int .i64 (t 19),.int .i64 (t 20),.int .i64 (t 21),.int .i64 (t 22),.int .i64 (t 23)] 26)).alloc (.cells #[.int .i64 (u 0),.int .i64 (u 1),.int .i64 (u 2),.int .i64 (u 3),.int .i64 (u 4),.int .i64 (u 5),.int .i64 (u 6),.int .i64 (u 7),.int .i64 (u 8),.int .i64 (u 9),.int .i64 (u 10),.int .i64 (u 11),.int .i64 (u 12),.int .i64 (u 13),.int .i64 (u 14),.int .i64 (u 15),.int .i64 (u 16),.int .i64 (u 17),.int .i64 (u 18),.int .i64 (u 19),.int .i64 (u 20),.int .i64 (u 21),.int .i64 (u 22),.int .i64 (u 23)] 26)=w0 at *;have HC0:=Lib.hid c0
 have HA:=Lib.hid hA
 have HB:=Lib.hid hB
 clear hA hB c0;go_enter Tryz.func3,Tryz.ntmps3;go_upto_region 1 with fail;clear hw0;generalize w.heap.size=ta at *;go_wp2_with fail;with_reducible refine (HF.out _ HC0.out).mono ?_
 rintro e w1 ⟨rfl,c1⟩;have HC1:=Lib.hid (HC0.out.step c1)
 have HA1:=Lib.hid (c1.blk0 HA.out)
 have HB1:=Lib.hid (c1.blk0 HB.out)
 clear c1 HC0 HA HB;go_wp2_with fail;have cc:=Chg.refl NoB w1
 refine wp_region_mix 4 [(true,0),(true,2),(false,1),(false,3)] (fun w'=>Chg NoB w1 w') (by kernel_rfl) (by kernel_rfl) (fun _ _ _ _ _ h=>h) (cc.drew) ?_
 simp only [pickMix_nil,pickMix_cons,Option.getD_some,List.getElem?_toArray,List.getElem?_cons_zero,List.getElem?_cons_succ,List.cons_append,List.nil_append,List.drop_succ_cons,List.drop_zero]
 refine wpMix_take rfl ?_;apply Exists.intro;refine ⟨fun wS hS=>?_,?_⟩
 ·try dsimp only at hS
  have cS:=hS
  exact exec_loadM _ _ rfl rfl (tal_load (cS.blk0 HA1.out))
 simp only [Act.put,List.setIfInBounds_toArray,List.set_cons_zero,List.set_cons_succ]
 refine wpMix_take rfl ?_;apply Exists.intro;refine ⟨fun wS hS=>?_,?_⟩
 ·try dsimp only at hS
  have cS:=hS
  exact exec_loadM _ _ rfl rfl (tal_load (cS.blk0 HA1.out))
 simp only [Act.put,List.setIfInBounds_toArray,List.set_cons_zero,List.set_cons_succ]
 refine wpMix_force rfl (fun K hK=>?_)
 go_simp;with_reducible refine (HT.out _ (HC1.out.step cc.drew)).mono ?_
 rintro e w2 ⟨rfl,c2⟩;have c2':=cc.drew.step c2
 refine hK _ _ c2' ?_
 clear hK K;refine wpMix_force rfl (fun K hK=>?_)
 go_simp;with_reducible refine (HRT.out _).mono ?_
 rintro e w3 ⟨rfl,c3⟩;have c3':=c2'.step c3
 refine hK _ _ c3' ?_
 clear hK K;refine wpMix_nil ?_
 have HC3:=Lib.hid (HC1.out.step c3')
 have HA3:=Lib.hid (c3'.blk0 HA1.out)
 have HB3:=Lib.hid (c3'.blk0 HB1.out)
 rw [HE.out]
 generalize (rtF 0 wdR (numsT t) ++ [10])=q at *;clear cc c2 c2' c3 c3' HC1 HA1 HB1 HT HRT HF;go_upto_region 5 with fail;have hr:w3.rangeAt ta 0 [.int .i64 (t 0),.int .i64 (t 1),.int .i64 (t 2),.int .i64 (t 3),.int .i64 (t 4),.int .i64 (t 5),.int .i64 (t 6),.int .i64 (t 7),.int .i64 (t 8),.int .i64 (t 9),.int .i64 (t 10),.int .i64 (t 11),.int .i64 (t 12),.int .i64 (t 13),.int .i64 (t 14),.int .i64 (t 15),.int .i64 (t 16),.int .i64 (t 17),.int .i64 (t 18),.int .i64 (t 19),.int .i64 (t 20),.int .i64 (t 21),.int .i64 (t 22),.int .i64 (t 23)]:=fun j v hj=>by rw [Nat.zero_add];exact HA3.out.cell' ((List.getElem?_toArray ..).trans hj)
 go_wp2_with (first | (refine wpList_load_mid rfl _ _ rfl ta 0 rfl _ _ hr Tryz.underlying26 rfl rt_talI ?_))
 go_wp2_with fail;refine (HSt.out _).mono ?_
 rintro e w4 ⟨rfl,c4⟩;have HC4:=Lib.hid (HC3.out.step c4)
 have HA4:=Lib.hid (c4.blk0 HA3.out)
 have HB4:=Lib.hid (c4.blk0 HB3.out)
 obtain ⟨b1,hb1⟩:∃b,smallT t=b:=⟨_,rfl⟩
 have H1:=Lib.hid hb1
 rw [hb1]
 clear c4 HC3 HA3 HB3 hr hb1;cases b1
 ·go_wp2_with fail;go_ret;exact ⟨rfl,HC4.out⟩
 ·have hr:w4.rangeAt (ta+1) 0 [.int .i64 (u 0),.int .i64 (u 1),.int .i64 (u 2),.int .i64 (u 3),.int .i64 (u 4),.int .i64 (u 5),.int .i64 (u 6),.int .i64 (u 7),.int .i64 (u 8),.int .i64 (u 9),.int .i64 (u 10),.int .i64 (u 11),.int .i64 (u 12),.int .i64 (u 13),.int .i64 (u 14),.int .i64 (u 15),.int .i64 (u 16),.int .i64 (u 17),.int .i64 (u 18),.int .i64 (u 19),.int .i64 (u 20),.int .i64 (u 21),.int .i64 (u 22),.int .i64 (u 23)]:=fun j v hj=>by rw [Nat.zero_add];exact HB4.out.cell' ((List.getElem?_toArray ..).trans hj)
  go_wp2_with (first | (refine wpList_load_g (by rfl) _ _ rfl (ta+1) 0 rfl _ _ hr Tryz.underlying26 rfl rt_talI ?_))
  go_wp2_with fail;refine (HSu.out _).mono ?_
  rintro e w5 ⟨rfl,c5⟩;have HC5:=Lib.hid (HC4.out.step c5)
  have HA5:=Lib.hid (c5.blk0 HA4.out)
  have HB5:=Lib.hid (c5.blk0 HB4.out)
  obtain ⟨b2,hb2⟩:∃b,smallT u=b:=⟨_,rfl⟩
  have H2:=Lib.hid hb2
  rw [hb2]
  clear c5 HC4 HA4 HB4 hr hb2;cases b2
  ·go_wp2_with fail;go_ret;exact ⟨rfl,HC5.out⟩
  ·have HSM2:=Lib.hid fun w'=>HSM.out w' H1.out H2.out
   clear HSM;go_upto_region 7 with fail;have cc:=Chg.refl NoB w5
   refine wp_region_mix 8 [(true,0),(true,2),(true,4),(true,5),(false,1),(false,3),(false,6),(false,7)] (fun w'=>Chg NoB w5 w') (by kernel_rfl) (by kernel_rfl) (fun _ _ _ _ _ h=>h) (cc.drew) ?_
   simp only [pickMix_nil,pickMix_cons,Option.getD_some,List.getElem?_toArray,List.getElem?_cons_zero,List.getElem?_cons_succ,List.cons_append,List.nil_append,List.drop_succ_cons,List.drop_zero]
   refine wpMix_take rfl ?_;apply Exists.intro;refine ⟨fun wS hS=>?_,?_⟩
   ·try dsimp only at hS
    have cS:=hS
    exact exec_loadM _ _ rfl rfl (tal_load (cS.blk0 HA5.out))
   simp only [Act.put,List.setIfInBounds_toArray,List.set_cons_zero,List.set_cons_succ]
   refine wpMix_take rfl ?_;apply Exists.intro;refine ⟨fun wS hS=>?_,?_⟩
   ·try dsimp only at hS
    have cS:=hS
    exact exec_loadM _ _ rfl rfl (tal_load (cS.blk0 HB5.out))
   simp only [Act.put,List.setIfInBounds_toArray,List.set_cons_zero,List.set_cons_succ]
   refine wpMix_take rfl ?_;apply Exists.intro;refine ⟨fun wS hS=>?_,?_⟩
   ·try dsimp only at hS
    have cS:=hS
    exact exec_loadM _ _ rfl rfl (tal_load (cS.blk0 HA5.out))
   simp only [Act.put,List.setIfInBounds_toArray,List.set_cons_zero,List.set_cons_succ]
   refine wpMix_take rfl ?_;apply Exists.intro;refine ⟨fun wS hS=>?_,?_⟩
   ·try dsimp only at hS
    have cS:=hS
    exact exec_loadM _ _ rfl rfl (tal_load (cS.blk0 HB5.out))
   simp only [Act.put,List.setIfInBounds_toArray,List.set_cons_zero,List.set_cons_succ]
   refine wpMix_force rfl (fun K hK=>?_)
   go_simp;refine (HNt.out _).mono ?_
   rintro e w6 ⟨xv,rfl,hX,c6⟩;have HX6:=Lib.hid hX
   have c6':=cc.drew.step c6
   refine hK _ _ c6' ?_
   clear hK K hX;refine wpMix_force rfl (fun K hK=>?_)
   go_simp;refine (HNu.out _).mono ?_
   rintro e w7 ⟨yv,rfl,hY,c7⟩;have HX7:=Lib.hid (HX6.out.chg0 c7)
   have HY7:=Lib.hid hY
   have c7':=c6'.step c7
   refine hK _ _ c7' ?_
   clear hK K hY HX6;refine wpMix_force rfl (fun K hK=>?_)
   go_simp;refine (HSM2.out _).mono ?_
   rintro e w8 ⟨rfl,c8⟩;have HX8:=Lib.hid (HX7.out.chg0 c8)
   have HY8:=Lib.hid (HY7.out.chg0 c8)
   have c8':=c7'.step c8
   refine hK _ _ c8' ?_
   clear hK K HX7 HY7;refine wpMix_force rfl (fun K hK=>?_)
   go_simp;refine (HNs.out _).mono ?_
   rintro e w9 ⟨zv,rfl,hZ,c9⟩;have HX9:=Lib.hid (HX8.out.chg0 c9)
   have HY9:=Lib.hid (HY8.out.chg0 c9)
   have HZ9:=Lib.hid hZ
   have c9':=c8'.step c9
   refine hK _ _ c9' ?_
   clear hK K HX8 HY8 hZ;refine wpMix_nil ?_
   have HC9:=Lib.hid (HC5.out.step c9')
   clear cc c6 c6' c7 c7' c8 c8' c9 c9' HC5 HA5 HB5 HNt HNu HNs HSM2 HSt HSu;obtain ⟨_,xp,xc,rfl,-,hx⟩:=HX9.out.sl
   obtain ⟨xg,xo,rfl,-,hxl,hxc⟩:=hx (by omega)
   obtain ⟨_,yp,yc,rfl,-,hy⟩:=HY9.out.sl
   obtain ⟨yg,yo,rfl,-,hyl,hyc⟩:=hy (by omega)
   obtain ⟨_,zp,zc,rfl,-,hz⟩:=HZ9.out.sl
   obtain ⟨zg,zo,rfl,-,hzl,hzc⟩:=hz (by omega)
   have HXc:Hid (∀i n,(numsT t)[i]? = some n→w9.cell? ⟨xg,xo+i,none⟩=some (.int .i64 n)):=Lib.hid fun i n h=>hxc i _ (by rw [List.getElem?_map,h];rfl)
   have HYc:Hid (∀i n,(numsT u)[i]? = some n→w9.cell? ⟨yg,yo+i,none⟩=some (.int .i64 n)):=Lib.hid fun i n h=>hyc i _ (by rw [List.getElem?_map,h];rfl)
   have HZc:Hid (∀i n,(numsT (sumT t u))[i]? = some n→w9.cell? ⟨zg,zo+i,none⟩=some (.int .i64 n)):=Lib.hid fun i n h=>hzc i _ (by rw [List.getElem?_map,h];rfl)
   have HL:=Lib.hid (And.intro hxl (And.intro hyl hzl))
   have HB40:Hid (∀i n,(numsT t)[i]? = some n→-1099511627776≤n∧n≤1099511627776):=Lib.hid fun i n h=>by
    have:=H1.out
    unfold smallT at this
    rw [Bool.and_eq_true] at this
    have:=List.all_eq_true.1 this.1 n (List.mem_of_getElem? h)
    unfold smI at this
    exact of_decide_eq_true this
   have HB41:Hid (∀i n,(numsT u)[i]? = some n→-1099511627776≤n∧n≤1099511627776):=Lib.hid fun i n h=>by
    have:=H2.out
    unfold smallT at this
    rw [Bool.and_eq_true] at this
    have:=List.all_eq_true.1 this.1 n (List.mem_of_getElem? h)
    unfold smI at this
    exact of_decide_eq_true this
   clear hx hxl hxc hy hyl hyc hz hzl hzc HX9 HY9 HZ9 H1 H2;go_wp2_with fail;go_loopg [34] 23 (fun k iv wr=>∃i:Nat,i+k=23∧iv = .int .i64 i∧Chg NoB w9 wr)
   case atStart=>exact ⟨0,by omega,rfl,Chg.refl _ _⟩
   case round=>
    obtain ⟨i,hk,rfl,hC⟩:=hrel
    rename World=>wr;have HK:=Lib.hid hk
    have HC:=Lib.hid hC
    clear hk;by_cases hi:i<23
    ·have t1:decide ((i:Int)<23)=true:=decide_eq_true (by omega)
     have t2:decide (i<23)=true:=decide_eq_true hi
     obtain ⟨x,hx⟩:∃n,(numsT t)[i]? = some n:=⟨_,List.getElem?_eq_getElem (by show i<23;exact hi)⟩
     obtain ⟨y,hy⟩:∃n,(numsT u)[i]? = some n:=⟨_,List.getElem?_eq_getElem (by show i<23;exact hi)⟩
     obtain ⟨z,hz⟩:∃n,(numsT (sumT t u))[i]? = some n:=⟨_,List.getElem?_eq_getElem (by show i<23;exact hi)⟩
     have x0:∀w',Chg NoB w9 w'→w'.cell? ⟨xg,xo+i,none⟩=some (.int .i64 x):=fun w' c=>c.cell (HXc.out i x hx) id
     have y0:∀w',Chg NoB w9 w'→w'.cell? ⟨yg,yo+i,none⟩=some (.int .i64 y):=fun w' c=>c.cell (HYc.out i y hy) id
     have z0:∀w',Chg NoB w9 w'→w'.cell? ⟨zg,zo+i,none⟩=some (.int .i64 z):=fun w' c=>c.cell (HZc.out i z hz) id
     have xl:∀w',Chg NoB w9 w'→xg<w'.heap.size:=fun w' c=>Nat.lt_of_lt_of_le HL.out.1 c.size
     have yl:∀w',Chg NoB w9 w'→yg<w'.heap.size:=fun w' c=>Nat.lt_of_lt_of_le HL.out.2.1 c.size
     have zl:∀w',Chg NoB w9 w'→zg<w'.heap.size:=fun w' c=>Nat.lt_of_lt_of_le HL.out.2.2 c.size
     have e1:=sum_nums t u i hx hy hz
     have b1:=HB40.out i x hx
     have b2:=HB41.out i y hy
     have e2:IntKind.i64.wrap (x+y)=x+y:=IntWalk.i64_in _ (by omega)
     have e3:wrap64 (x+y)=x+y:=IntWalk.wrap64_in _ (by omega)
     have i1:(0:Int)≤i:=by omega
     have i2:(i:Int)<23:=by omega
     have i3:((i:Int)).toNat=i:=Int.toNat_natCast i
     have HI:=Lib.hid (And.intro hx (And.intro hy hz))
     obtain ⟨s,hs⟩:∃s,x+y=s:=⟨_,rfl⟩
     rw [hs] at e1 e2 e3
     have q1:(s != s)=false:=by simp
     subst e1;clear hx hy hz b1 b2;go_upto_region 11 with fail;refine wp_region_mix 13 [(true,0),(true,1),(true,2),(true,3),(true,4),(true,5),(true,6),(true,7),(true,8),(true,9),(true,10),(true,11),(true,12)] (fun w'=>Chg NoB w9 w') (by kernel_rfl) (by kernel_rfl) (fun _ _ _ _ _ h=>h) (hC.drew) ?_
     simp only [pickMix_nil,pickMix_cons,Option.getD_some,List.getElem?_toArray,List.getElem?_cons_zero,List.getElem?_cons_succ,List.cons_append,List.nil_append,List.drop_succ_cons,List.drop_zero]
     iterate 13
      refine wpMix_take rfl ?_;apply Exists.intro;refine ⟨fun wS hS=>?_,?_⟩
      ·try dsimp only at hS
       have cS:=hS
       go_simp;try rfl
      simp only [Act.put,List.setIfInBounds_toArray,List.set_cons_zero,List.set_cons_succ]
     refine wpMix_nil ?_
     have HC':=Lib.hid hC.drew
     clear x0 y0 z0 xl yl zl hC;go_wp2_with fail;go_roundg (23 - (i+1))
     case rel=>exact ⟨i+1,by omega,by go_num,HC'.out⟩
     case measure=>have:=HK.out;omega
    ·have t1:decide ((i:Int)<23)=false:=decide_eq_false (by omega)
     have t2:decide (i<23)=false:=decide_eq_false hi
     have HCe:=Lib.hid (HC9.out.step hC)
     clear hC;go_wp2_with fail;go_ret;exact ⟨rfl,HCe.out⟩
section
variable {H:Type} {enc:TypeId×Value→H} {w:World}
theorem rd_array {P:Program} {t:TypeId} {n:Nat} {e:TypeId} {cs:List Value} (ht:P.underlying t=some (.array n e)) (h:Rd enc P w t cs) :
  cs.length=P.cellsOf t∧∀(i:Nat),i<n→Rd enc P w e ((cs.drop (i*P.cellsOf e)).take (P.cellsOf e)):=by
 obtain ⟨fuel,x,h⟩:=h
 obtain ⟨xs,m,-,-,hl,hlen,hf⟩:=DataW.trod_array ht h
 refine ⟨hl,fun i hi=>?_⟩
 have:=hf i hi
 rw [List.getElem?_eq_getElem (by omega)] at this
 exact ⟨m,_,this⟩
theorem rd_cell {cs:List Value} {o:Nat} (h:Rd enc Tryz.prog w 3 ((cs.drop o).take 1)):∃n,cs[o]? = some (.int .i64 n)∧i64 n:=by
 obtain ⟨n,hn,hw⟩:=h.int (k:=.i64) Tryz.underlying3
 have:=congrArg (fun l:List Value=>l[0]?) hn
 refine ⟨n,?_,bounds_i64 hw⟩
 simpa [List.getElem?_take,List.getElem?_drop] using this
theorem rd_arr {cs:List Value} {o n T:Nat} (hT:Tryz.prog.underlying T=some (.array n 3)) (h:Rd enc Tryz.prog w T ((cs.drop o).take n)):∀i,i<n→∃x,cs[o+i]? = some (.int .i64 x)∧i64 x:=by
 intro i hi;obtain ⟨-,ha⟩:=rd_array hT h
 have hc:Tryz.prog.cellsOf 3=1:=by kernel_rfl
 have:=ha i hi
 rw [hc] at this
 obtain ⟨x,hx,hw⟩:=this.int (k:=.i64) Tryz.underlying3
 have:=congrArg (fun l:List Value=>l[0]?) hx
 refine ⟨x,?_,bounds_i64 hw⟩
 simpa [List.getElem?_take,List.getElem?_drop,hi] using this
theorem tally_rd {b:Nat} {v:Value} (ok:Value.okWide Tryz.prog w .any b 26 v) (r:Rd enc Tryz.prog w 26 v.cells.toList):∃t:Nat→Int,v = .agg (tallyC t)∧(∀k,i64 (t k))∧∀k,24≤k→t k=0:=by
 unfold Value.okWide at ok
 rw [Tryz.underlying26] at ok
 obtain ⟨cs,rfl,hsz,-⟩:=ok
 replace r:Rd enc Tryz.prog w 26 cs.toList:=r
 obtain ⟨hl,hf⟩:=r.struct Tryz.underlying26
 have hc:Tryz.prog.cellsOf 26=24:=by kernel_rfl
 rw [hc] at hl
 have c5:Tryz.prog.cellsOf 22=5:=by kernel_rfl
 have c7:Tryz.prog.cellsOf 23=7:=by kernel_rfl
 have c3:Tryz.prog.cellsOf 24=3:=by kernel_rfl
 have c1:Tryz.prog.cellsOf 3=1:=by kernel_rfl
 have f0:Rd enc Tryz.prog w 22 ((cs.toList.drop 0).take (Tryz.prog.cellsOf 22)):=hf 0 _ rfl
 have f1:Rd enc Tryz.prog w 23 ((cs.toList.drop 5).take (Tryz.prog.cellsOf 23)):=hf 1 _ rfl
 have f2:Rd enc Tryz.prog w 3 ((cs.toList.drop 12).take (Tryz.prog.cellsOf 3)):=hf 2 _ rfl
 have f3:Rd enc Tryz.prog w 24 ((cs.toList.drop 13).take (Tryz.prog.cellsOf 24)):=hf 3 _ rfl
 have f4:Rd enc Tryz.prog w 23 ((cs.toList.drop 16).take (Tryz.prog.cellsOf 23)):=hf 4 _ rfl
 have f5:Rd enc Tryz.prog w 3 ((cs.toList.drop 23).take (Tryz.prog.cellsOf 3)):=hf 5 _ rfl
 rw [c5] at f0
 rw [c7] at f1 f4
 rw [c3] at f3
 rw [c1] at f2 f5
 have g0:=rd_arr Tryz.underlying22 f0
 have g1:=rd_arr Tryz.underlying23 f1
 have g2:=rd_cell f2
 have g3:=rd_arr Tryz.underlying24 f3
 have g4:=rd_arr Tryz.underlying23 f4
 have g5:=rd_cell f5
 have all:∀k,k<24→∃x,cs.toList[k]? = some (.int .i64 x)∧i64 x:=by
  intro k hk;by_cases h5:k<5
  ·simpa using g0 k h5
  ·by_cases h12:k<12
   ·have:=g1 (k - 5) (by omega)
    rwa [show 5+(k - 5)=k by omega] at this
   ·by_cases h13:k=12
    ·rw [h13];exact g2
    ·by_cases h16:k<16
     ·have:=g3 (k - 13) (by omega)
      rwa [show 13+(k - 13)=k by omega] at this
     ·by_cases h23:k<23
      ·have:=g4 (k - 16) (by omega)
       rwa [show 16+(k - 16)=k by omega] at this
      ·rw [show k=23 by omega];exact g5
 obtain ⟨l,hll,hlx⟩:=choose_list 24 _ all
 refine ⟨fun k=>l.getD k 0,?_,fun k=>?_,fun k hk=>?_⟩
 ·congr 1
  apply Array.ext_getElem?
  intro k;by_cases hk:k<24
  ·rw [tal_at _ hk,List.getD_eq_getElem?_getD]
   have hk':k<l.length:=by omega
   have:=(hlx k _ (List.getElem?_eq_getElem hk')).1
   rw [List.getElem?_eq_getElem hk',Option.getD_some,←this,Array.getElem?_toList]
  ·rw [Array.getElem?_eq_none (by rw [←Array.length_toList];omega),Array.getElem?_eq_none (by show 24≤k;omega)]
 ·show i64 (l.getD k 0)
  rw [List.getD_eq_getElem?_getD]
  by_cases hk':k<l.length
  ·rw [List.getElem?_eq_getElem hk']
   exact (hlx k _ (List.getElem?_eq_getElem hk')).2
  ·rw [List.getElem?_eq_none (by omega)]
   exact ⟨by show -9223372036854775808≤(0:Int);decide,by show (0:Int)≤9223372036854775807;decide⟩
 ·show l.getD k 0=0
  rw [List.getD_eq_getElem?_getD,List.getElem?_eq_none (by omega)]
  rfl
end
end Go.Proofs.YtjhnnjgnkkjmkaaGreatDoor
