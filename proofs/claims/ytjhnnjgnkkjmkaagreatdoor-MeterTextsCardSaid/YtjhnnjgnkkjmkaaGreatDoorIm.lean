/- Meters: a script is played, by what each act comes to. Tallies told. No condition. A meter's tally is told. Printed by mk_q28b.py. No condition. A meter beside a cluster of two nodes and one page: what each kind of act leaves. Printed by mk_q29.py. No condition. -/
import Derived.Test.YtjhnnjgnkkjmkaaGreatDoorIl
set_option maxHeartbeats 2000000
set_option maxRecDepth 100000
set_option linter.unusedVariables false
set_option linter.unusedSimpArgs false
namespace Go.Proofs.YtjhnnjgnkkjmkaaGreatDoor
open Go.RowKit Go.RR
def actsC (f:Nat→Int×Int×Int):Nat→List Value
 | 0=>[]
 | n+1=>actsC f n ++ [.int .i64 (f n).1,.int .i64 (f n).2.1,.int .i64 (f n).2.2]
theorem actsC_len (f:Nat→Int×Int×Int):∀n,(actsC f n).length=n*3
 | 0=>rfl
 | n+1=>by rw [actsC,List.length_append,actsC_len f n];simp;omega
theorem actsC_get (f:Nat→Int×Int×Int):∀(n i j:Nat) (u:Value),i<n→[Value.int .i64 (f i).1,.int .i64 (f i).2.1,.int .i64 (f i).2.2][j]? = some u→(actsC f n)[i*3+j]? = some u
 | 0,_,_,_,h,_=>absurd h (Nat.not_lt_zero _)
 | n+1,i,j,u,h,hu=>by
  have hj:j<3:=(List.getElem?_eq_some_iff.1 hu).1
  rw [actsC]
  by_cases hi:i<n
  ·rw [List.getElem?_append_left (by rw [actsC_len];omega)]
   exact actsC_get f n i j u hi hu
  ·obtain rfl:i=n:=by omega
   rw [List.getElem?_append_right (by rw [actsC_len];omega),actsC_len,show i*3+j - i*3=j by omega]
   exact hu
def cntOk (ok:Nat→Bool):Nat→Nat
 | 0=>0
 | n+1=>cntOk ok n+(if ok n then 1 else 0)
theorem cntOk_le (ok:Nat→Bool):∀n,cntOk ok n≤n
 | 0=>Nat.le_refl _
 | n+1=>by have:=cntOk_le ok n;rw [cntOk];split <;> omega
theorem mPlay_any {w:World} (mb n:Nat) (hn:n≤1000) (v:Value) (Sa:Nat→Prop) (f:Nat→Int×Int×Int) (ok:Nat→Bool) (St:Nat→World→Prop) (h0:St 0 w) (hc:∀i w w',St i w→Chg NoB w w'→St i w')
  (hv:∀i w,St i w→Sl w Sa 3 v n (actsC f n)) (hm:∀i w,St i w→mb<w.heap.size)
  (hd:∀i w,i<n→St i w→Calls Tryz.prog 31 #[.pointer (some ⟨mb,0,none⟩),.agg #[.int .i64 (f i).1,.int .i64 (f i).2.1,.int .i64 (f i).2.2]] w (fun e w'=>∃(what:Int) (done:Bool) (op rd rs rt im pc cause access addr size old new ev:Int),e = .returned (.tuple #[.agg #[.int .i64 what,.bool done,.int .i64 op,.int .i64 rd,.int .i64 rs,.int .i64 rt,.int .i64 im,.int .u64 pc,.int .i64 cause,.int .i64 access,.int .u64 addr,.int .i64 size,.int .u64 old,.int .u64 new,.int .i64 ev],.bool (ok i)])∧St (i+1) w')) :
  Calls Tryz.prog 19 #[.pointer (some ⟨mb,0,none⟩),v] w (RetW (.int .i64 (cntOk ok n:Nat)) fun w'=>St n w'):=by
 obtain ⟨-,p,cap,hvv,hcap,-⟩:=hv 0 w h0
 subst hvv;have HC:=Lib.hid hc
 have HV:=Lib.hid hv
 have HD:=Lib.hid hd
 have HN:=Lib.hid hn
 have H0:=Lib.hid h0
 clear hc hv hd hm h0 hcap;go_enter Tryz.func19,Tryz.ntmps19;go_wp2_with fail;go_loopg [5,12] n (fun k cv iv wr=>∃i:Nat,i+k=n∧iv = .int .i64 i∧cv = .int .i64 (cntOk ok i:Nat)∧St i wr)
 case atStart=>exact ⟨0,by omega,rfl,rfl,H0.out⟩
 case round=>
  obtain ⟨i,hk,rfl,rfl,hS⟩:=hrel
  rename World=>wr;have HK:=Lib.hid hk
  have HS:=Lib.hid hS
  clear hk hS;by_cases hi:i<n
  ·have t1:decide ((i:Int)<n)=true:=decide_eq_true (by omega)
   have t2:decide (i<n)=true:=decide_eq_true hi
   obtain ⟨-,p',cap',e,-,hcell⟩:=HV.out i wr HS.out
   cases e
   obtain ⟨g,off,rfl,-,gl,hcell⟩:=hcell (by omega)
   have x0:wr.cell? ⟨g,off+i*3,none⟩=some (.int .i64 (f i).1):=hcell (i*3) _ (actsC_get f n i 0 _ hi rfl)
   have x1:wr.cell? ⟨g,off+i*3+1,none⟩=some (.int .i64 (f i).2.1):=(congrArg (fun o=>wr.cell? ⟨g,o,none⟩) (by omega)).trans (hcell (i*3+1) _ (actsC_get f n i 1 _ hi rfl))
   have x2:wr.cell? ⟨g,off+i*3+2,none⟩=some (.int .i64 (f i).2.2):=(congrArg (fun o=>wr.cell? ⟨g,o,none⟩) (by omega)).trans (hcell (i*3+2) _ (actsC_get f n i 2 _ hi rfl))
   have HDi:=Lib.hid (HD.out i (wr.alloc (.cells #[.int .i64 (f i).1,.int .i64 (f i).2.1,.int .i64 (f i).2.2] 57)) hi (HC.out i wr _ HS.out ((Chg.refl NoB wr).alloc _)))
   have yA:=Blk.new wr #[.int .i64 (f i).1,.int .i64 (f i).2.1,.int .i64 (f i).2.2] 57
   have hb:=cntOk_le ok i
   have e1:IntKind.i64.wrap ((cntOk ok i:Nat)+1:Int)=(cntOk ok i:Nat)+1:=IntWalk.i64_in _ (by have:=HN.out;omega)
   have HB:=Lib.hid (show cntOk ok (i+1)=cntOk ok i+(if ok i then 1 else 0) from rfl)
   generalize (f i).1=a0 at *;generalize (f i).2.1=a1 at *;generalize (f i).2.2=a2 at *;generalize ok i=b at *;generalize cntOk ok i=c at *;have ya:=yA.cell
   have yl:=yA.lt
   clear hcell hb yA;go_wp2_with fail;with_reducible refine HDi.out.mono ?_
   rintro e w2 ⟨what,done,op,rd,rs,rt,im,pc,cause,access,addr,size,old,new,ev,rfl,hS2⟩;have HS2:=Lib.hid hS2
   clear hS2 HDi ya yl x0 x1 x2;cases b
   ·have HB':Hid (cntOk ok (i+1)=c):=Lib.hid HB.out
    go_wp2_with fail;go_roundg (n - (i+1))
    case rel=>exact ⟨i+1,by have:=HK.out;omega,by go_num,by rw [HB'.out],HC.out _ _ _ HS2.out ((Chg.refl NoB _).alloc _)⟩
    case measure=>have:=HK.out;omega
   ·have HB':Hid (cntOk ok (i+1)=c+1):=Lib.hid HB.out
    go_wp2_with fail;go_roundg (n - (i+1))
    case rel=>exact ⟨i+1,by have:=HK.out;omega,by go_num,by rw [HB'.out];go_num,HC.out _ _ _ HS2.out ((Chg.refl NoB _).alloc _)⟩
    case measure=>have:=HK.out;omega
  ·have t1:decide ((i:Int)<n)=false:=decide_eq_false (by omega)
   have t2:decide (i<n)=false:=decide_eq_false hi
   obtain rfl:i=n:=by have:=HK.out;omega
   go_wp2_with fail;go_ret;exact ⟨rfl,HS.out⟩
theorem results_one {P:Program} {fn:Func} {tmps:Array Value} {w:World} {a b:Nat} {t:TypeId} {cs:List Value} {d:TypeDesc} (hr:fn.results = #[.cell a t]) (ha:tmps.getD a undef = .pointer (some ⟨b,0,none⟩)) (hc:w.rangeAt b 0 cs)
  (hu:P.underlying t=some d) (hd:d.isRow=true) (hi:(P.info? t).map (·.size)=some cs.length):(results fn tmps).run P w = .ok (.agg cs.toArray) w:=by
 have h:=run_loadVar_mid (P:=P) w b 0 t cs d hc hu hd hi
 have ha':tmps[a]?.getD undef = .pointer (some ⟨b,0,none⟩):=by simpa using ha
 unfold results
 rw [hr]
 simp [ha',asAddr,h]
theorem blk_there {w:World} {b n:Nat} {cs:Array Value} {T:TypeId} (h:Blk w b cs T) (hs:cs.size=n):w.there b 0 n:=fun j hj=>by
 rw [Nat.zero_add]
 refine ⟨?_,h.frozen j⟩
 rw [h.cell j,Array.getElem?_eq_getElem (by omega)]
 rfl
theorem tally_info:(Tryz.prog.info? 26).map (·.size)=some 24:=by kernel_rfl
theorem tal_get (t:Nat→Int) (cb j:Nat) (v:Value) (h:([.int .i64 (t 0),.int .i64 (t 1),.int .i64 (t 2),.int .i64 (t 3),.int .i64 (t 4),.int .i64 (t 5),.int .i64 (t 6),.int .i64 (t 7),.int .i64 (t 8),.int .i64 (t 9),.int .i64 (t 10),.int .i64 (t 11),.int .i64 (t 12),.int .i64 (t 13),.int .i64 (t 14),.int .i64 (t 15),.int .i64 (t 16),.int .i64 (t 17),.int .i64 (t 18),.int .i64 (t 19),.int .i64 (t 20),.int .i64 (t 21),.int .i64 (t 22),.int .i64 (t 23)]:List Value)[j]? = some v):(#[.pointer (some ⟨cb,0,none⟩),.int .i64 (t 0),.int .i64 (t 1),.int .i64 (t 2),.int .i64 (t 3),.int .i64 (t 4),.int .i64 (t 5),.int .i64 (t 6),.int .i64 (t 7),.int .i64 (t 8),.int .i64 (t 9),.int .i64 (t 10),.int .i64 (t 11),.int .i64 (t 12),.int .i64 (t 13),.int .i64 (t 14),.int .i64 (t 15),.int .i64 (t 16),.int .i64 (t 17),.int .i64 (t 18),.int .i64 (t 19),.int .i64 (t 20),.int .i64 (t 21),.int .i64 (t 22),.int .i64 (t 23)]:Array Value)[1+j]? = some v:=by
 rw [Nat.add_comm,List.getElem?_toArray,List.getElem?_cons_succ]
 exact h
theorem mTally_any {w:World} {mb cb:Nat} {t:Nat→Int} (h:MtAt w mb cb t):Calls Tryz.prog 20 #[.pointer (some ⟨mb,0,none⟩)] w (RetW (talV t) fun w'=>Chg NoB w w'):=by
 unfold talV
 have c0:=(Chg.refl NoB w).alloc (.cells #[.int .i64 0,.int .i64 0,.int .i64 0,.int .i64 0,.int .i64 0,.int .i64 0,.int .i64 0,.int .i64 0,.int .i64 0,.int .i64 0,.int .i64 0,.int .i64 0,.int .i64 0,.int .i64 0,.int .i64 0,.int .i64 0,.int .i64 0,.int .i64 0,.int .i64 0,.int .i64 0,.int .i64 0,.int .i64 0,.int .i64 0,.int .i64 0] 26)
 have hB0:=Blk.new w #[.int .i64 0,.int .i64 0,.int .i64 0,.int .i64 0,.int .i64 0,.int .i64 0,.int .i64 0,.int .i64 0,.int .i64 0,.int .i64 0,.int .i64 0,.int .i64 0,.int .i64 0,.int .i64 0,.int .i64 0,.int .i64 0,.int .i64 0,.int .i64 0,.int .i64 0,.int .i64 0,.int .i64 0,.int .i64 0,.int .i64 0,.int .i64 0] 26
 have hM:=c0.blk0 h
 generalize hw1:w.alloc (.cells #[.int .i64 0,.int .i64 0,.int .i64 0,.int .i64 0,.int .i64 0,.int .i64 0,.int .i64 0,.int .i64 0,.int .i64 0,.int .i64 0,.int .i64 0,.int .i64 0,.int .i64 0,.int .i64 0,.int .i64 0,.int .i64 0,.int .i64 0,.int .i64 0,.int .i64 0,.int .i64 0,.int .i64 0,.int .i64 0,.int .i64 0,.int .i64 0] 26)=w1 at *;have HS:=store_all hB0 [.int .i64 (t 0),.int .i64 (t 1),.int .i64 (t 2),.int .i64 (t 3),.int .i64 (t 4),.int .i64 (t 5),.int .i64 (t 6),.int .i64 (t 7),.int .i64 (t 8),.int .i64 (t 9),.int .i64 (t 10),.int .i64 (t 11),.int .i64 (t 12),.int .i64 (t 13),.int .i64 (t 14),.int .i64 (t 15),.int .i64 (t 16),.int .i64 (t 17),.int .i64 (t 18),.int .i64 (t 19),.int .i64 (t 20),.int .i64 (t 21),.int .i64 (t 22),.int .i64 (t 23)] rfl
 have hC:=chg_fresh c0 HS.2 (Nat.le_refl _)
 have g:=hM.cell' (i:=0) (v:=.pointer (some ⟨cb,0,none⟩)) rfl
 have HRa:Hid (w1.rangeAt mb 1 [.int .i64 (t 0),.int .i64 (t 1),.int .i64 (t 2),.int .i64 (t 3),.int .i64 (t 4),.int .i64 (t 5),.int .i64 (t 6),.int .i64 (t 7),.int .i64 (t 8),.int .i64 (t 9),.int .i64 (t 10),.int .i64 (t 11),.int .i64 (t 12),.int .i64 (t 13),.int .i64 (t 14),.int .i64 (t 15),.int .i64 (t 16),.int .i64 (t 17),.int .i64 (t 18),.int .i64 (t 19),.int .i64 (t 20),.int .i64 (t 21),.int .i64 (t 22),.int .i64 (t 23)]):=Lib.hid fun j v hj=>hM.cell' (tal_get t cb j v hj)
 have HTh:Hid (w1.there w.heap.size 0 24):=Lib.hid (blk_there hB0 rfl)
 have gl:=hM.lt
 have HC:=Lib.hid hC
 have HQx:=Lib.hid HS.1.cell
 clear c0 hB0 hM HS hC h;have hr:w1.rangeAt mb 1 [.int .i64 (t 0),.int .i64 (t 1),.int .i64 (t 2),.int .i64 (t 3),.int .i64 (t 4),.int .i64 (t 5),.int .i64 (t 6),.int .i64 (t 7),.int .i64 (t 8),.int .i64 (t 9),.int .i64 (t 10),.int .i64 (t 11),.int .i64 (t 12),.int .i64 (t 13),.int .i64 (t 14),.int .i64 (t 15),.int .i64 (t 16),.int .i64 (t 17),.int .i64 (t 18),.int .i64 (t 19),.int .i64 (t 20),.int .i64 (t 21),.int .i64 (t 22),.int .i64 (t 23)]:=HRa.out
 have hi:(Tryz.prog.info? 26).map (·.size)=some 24:=tally_info
 have ht:=HTh.out
 go_enter Tryz.func20,Tryz.ntmps20;go_wp2_with (first | (refine wpList_load_mid rfl _ _ rfl mb 1 rfl [.int .i64 (t 0),.int .i64 (t 1),.int .i64 (t 2),.int .i64 (t 3),.int .i64 (t 4),.int .i64 (t 5),.int .i64 (t 6),.int .i64 (t 7),.int .i64 (t 8),.int .i64 (t 9),.int .i64 (t 10),.int .i64 (t 11),.int .i64 (t 12),.int .i64 (t 13),.int .i64 (t 14),.int .i64 (t 15),.int .i64 (t 16),.int .i64 (t 17),.int .i64 (t 18),.int .i64 (t 19),.int .i64 (t 20),.int .i64 (t 21),.int .i64 (t 22),.int .i64 (t 23)] _ hr Tryz.underlying26 rfl hi ?_) | (refine wpList_store_mid rfl _ _ _ rfl w.heap.size 0 #[.int .i64 (t 0),.int .i64 (t 1),.int .i64 (t 2),.int .i64 (t 3),.int .i64 (t 4),.int .i64 (t 5),.int .i64 (t 6),.int .i64 (t 7),.int .i64 (t 8),.int .i64 (t 9),.int .i64 (t 10),.int .i64 (t 11),.int .i64 (t 12),.int .i64 (t 13),.int .i64 (t 14),.int .i64 (t 15),.int .i64 (t 16),.int .i64 (t 17),.int .i64 (t 18),.int .i64 (t 19),.int .i64 (t 20),.int .i64 (t 21),.int .i64 (t 22),.int .i64 (t 23)] rfl rfl ht tally_info (by simp [Value.oneCell']) ?_))
 exact bodyPost_ret (v:=.agg #[.int .i64 (t 0),.int .i64 (t 1),.int .i64 (t 2),.int .i64 (t 3),.int .i64 (t 4),.int .i64 (t 5),.int .i64 (t 6),.int .i64 (t 7),.int .i64 (t 8),.int .i64 (t 9),.int .i64 (t 10),.int .i64 (t 11),.int .i64 (t 12),.int .i64 (t 13),.int .i64 (t 14),.int .i64 (t 15),.int .i64 (t 16),.int .i64 (t 17),.int .i64 (t 18),.int .i64 (t 19),.int .i64 (t 20),.int .i64 (t 21),.int .i64 (t 22),.int .i64 (t 23)]) (results_one (cs:=[.int .i64 (t 0),.int .i64 (t 1),.int .i64 (t 2),.int .i64 (t 3),.int .i64 (t 4),.int .i64 (t 5),.int .i64 (t 6),.int .i64 (t 7),.int .i64 (t 8),.int .i64 (t 9),.int .i64 (t 10),.int .i64 (t 11),.int .i64 (t 12),.int .i64 (t 13),.int .i64 (t 14),.int .i64 (t 15),.int .i64 (t 16),.int .i64 (t 17),.int .i64 (t 18),.int .i64 (t 19),.int .i64 (t 20),.int .i64 (t 21),.int .i64 (t 22),.int .i64 (t 23)]) rfl rfl (fun j v hj=>by rw [Nat.zero_add];exact (HQx.out j).trans ((List.getElem?_toArray ..).trans hj)) Tryz.underlying26 rfl tally_info) rfl ⟨rfl,HC.out⟩
def KQ (cb:Nat) (nb:Nat→Nat) (I:Nat→Prop) (P:Cst→(Nat→Nst)→Prop) (w:World) (b:Nat):Prop:=
 ∃x F0 Fn y,QC w F0 Fn cb 2 1 nb x y∧P x y∧∀k,InC F0 Fn 2 k→I k∨b≤k
theorem KQ.keep {cb mb H b:Nat} {nb:Nat→Nat} {I:Nat→Prop} {P:Cst→(Nat→Nst)→Prop} {w1 w2:World} (h:KQ cb nb I P w1 b) (c:Chg (fun k=>k=mb∨(H≤k∧k<b)) w1 w2) (hI:∀k,I k→k<H) (hm:¬I mb) (hmb:mb<H) (hb:H≤b):KQ cb nb I P w2 H:=by
 obtain ⟨x,F0,Fn,y,hQ,hP,hF⟩:=h
 have hn:∀k,InC F0 Fn 2 k→¬(k=mb∨(H≤k∧k<b)):=fun k hk e=>by
  rcases e with rfl | ⟨e1,e2⟩
  ·rcases hF _ hk with h | h
   ·exact hm h
   ·omega
  ·rcases hF _ hk with h | h
   ·have:=hI _ h;omega
   ·omega
 exact ⟨x,F0,Fn,y,hQ.chg c (fun k hk=>hn k (.inl hk)) (fun i k hi hk=>hn k (.inr ⟨i,hi,hk⟩)),hP,fun k hk=>(hF k hk).imp id fun h=>by omega⟩
theorem QC.lt {w:World} {F0:Nat→Prop} {Fn:Nat→Nat→Prop} {cb n sh:Nat} {nb:Nat→Nat} {x:Cst} {y:Nat→Nst} (h:QC w F0 Fn cb n sh nb x y):∀k,InC F0 Fn n k→k<w.heap.size:=fun k hk=>
 hk.elim (h.own.bd k) fun ⟨i,hi,hk⟩=>(h.nd i hi).bd k hk
structure MSt (w0 w:World) (mb cb:Nat) (Sa:Nat→Prop) (v:Value) (f:Nat→Int×Int×Int) (t:Nat→Int) (P:Cst→(Nat→Nst)→Prop):Prop where
 m:MtAt w mb cb t
 s:Sl w Sa 3 v 7 (actsC f 7)
 sb:∀k,Sa k→k<w.heap.size∧k≠mb
 ch:Chg (fun k=>w0.heap.size≤k) w0 w
 lm:w0.heap.size≤mb
 ex:∃(I:Nat→Prop) (nb:Nat→Nat),KQ cb nb I P w w.heap.size∧(∀k,I k→k<w.heap.size)∧¬I mb∧(∀k,Sa k→¬I k)∧∀k,I k→w0.heap.size≤k
theorem MSt.qc {w0 w:World} {mb cb:Nat} {Sa:Nat→Prop} {v:Value} {f:Nat→Int×Int×Int} {t:Nat→Int} {P:Cst→(Nat→Nst)→Prop} (h:MSt w0 w mb cb Sa v f t P) :
  ∃x F0 Fn y nb,QC w F0 Fn cb 2 1 nb x y∧P x y∧¬InC F0 Fn 2 mb∧(∀k,Sa k→¬InC F0 Fn 2 k)∧∀k,InC F0 Fn 2 k→w0.heap.size≤k:=by
 obtain ⟨I,nb,⟨x,F0,Fn,y,hQ,hP,hF⟩,hI,hm,hs,hl⟩:=h.ex
 have h1:∀k,InC F0 Fn 2 k→I k:=fun k hk=>(hF k hk).elim id fun h=>by have:=hQ.lt k hk;omega
 exact ⟨x,F0,Fn,y,nb,hQ,hP,fun e=>hm (h1 _ e),fun k hk e=>hs k hk (h1 _ e),fun k hk=>hl k (h1 _ hk)⟩
theorem MSt.chg0 {w0 w w':World} {mb cb:Nat} {Sa:Nat→Prop} {v:Value} {f:Nat→Int×Int×Int} {t:Nat→Int} {P:Cst→(Nat→Nst)→Prop} (h:MSt w0 w mb cb Sa v f t P) (c:Chg NoB w w'):MSt w0 w' mb cb Sa v f t P:=by
 obtain ⟨x,F0,Fn,y,nb,hQ,hP,hm,hs,hl⟩:=h.qc
 have hz:=c.size
 exact ⟨c.blk0 h.m,h.s.chg0 c,fun k hk=>⟨by have:=(h.sb k hk).1;omega,(h.sb k hk).2⟩,h.ch.trans (c.mono fun _ _ e=>e.elim) fun _ _ e=>e,h.lm,InC F0 Fn 2,nb,⟨x,F0,Fn,y,hQ.chg0 c,hP,fun k hk=>.inl hk⟩,fun k hk=>by have:=hQ.lt k hk;omega,hm,hs,hl⟩
theorem ms_bad {w0 w:World} {mb cb:Nat} {Sa:Nat→Prop} {v:Value} {f:Nat→Int×Int×Int} {t:Nat→Int} {P P':Cst→(Nat→Nst)→Prop} (h:MSt w0 w mb cb Sa v f t P) (ht:∀k,0≤t k∧t k<1099511627776) (kind a b:Int)
  (hP:∀{x:Cst} {F0:Nat→Prop} {nb:Nat→Nat} (w':World),MtAt w' mb cb t→COwn w' F0 cb 2 1 nb x→Calls Tryz.prog 48 #[.pointer (some ⟨mb,0,none⟩),.agg #[.int .i64 kind,.int .i64 a,.int .i64 b]] w' (RetW (.tuple #[.agg #[.int .i64 0,.int .i64 0,.slice none 0 0,.bool false],.bool false]) fun w''=>Chg NoB w' w''))
  (hD:∀{x:Cst} {F0:Nat→Prop} {Fn:Nat→Nat→Prop} {y:Nat→Nst} {nb:Nat→Nat},QC w F0 Fn cb 2 1 nb x y→P x y→∃(what:Int) (done:Bool) (op rd rs rt im pc cause access addr size old new ev:Int),what=what∧∀w',Chg NoB w w'→Calls Tryz.prog 49 #[.pointer (some ⟨cb,0,none⟩),.agg #[.int .i64 kind,.int .i64 a,.int .i64 b]] w' (RetW (.tuple #[.agg #[.int .i64 what,.bool done,.int .i64 op,.int .i64 rd,.int .i64 rs,.int .i64 rt,.int .i64 im,.int .u64 pc,.int .i64 cause,.int .i64 access,.int .u64 addr,.int .i64 size,.int .u64 old,.int .u64 new,.int .i64 ev],.bool false]) fun w''=>KQ cb nb (InC F0 Fn 2) P' w'' w'.heap.size∧Chg (InC F0 Fn 2) w' w'')) :
  Calls Tryz.prog 31 #[.pointer (some ⟨mb,0,none⟩),.agg #[.int .i64 kind,.int .i64 a,.int .i64 b]] w (fun e w'=>∃(what:Int) (done:Bool) (op rd rs rt im pc cause access addr size old new ev:Int),e = .returned (.tuple #[.agg #[.int .i64 what,.bool done,.int .i64 op,.int .i64 rd,.int .i64 rs,.int .i64 rt,.int .i64 im,.int .u64 pc,.int .i64 cause,.int .i64 access,.int .u64 addr,.int .i64 size,.int .u64 old,.int .u64 new,.int .i64 ev],.bool false])∧MSt w0 w' mb cb Sa v f (updN t 12 (t 12+1)) P'):=by
 obtain ⟨x,F0,Fn,y,nb,hQ,hPx,hm,hs,hl⟩:=h.qc
 obtain ⟨what,done,op,rd,rs,rt,im,pc,cause,access,addr,size,old,new,ev,hw,hD⟩:=hD hQ hPx
 have hlt:=h.m.lt
 clear hw;refine (mDo_bad h.m (ht 12) (InC F0 Fn 2) hm hQ.lt (fun w1 b=>KQ cb nb (InC F0 Fn 2) P' w1 b∧w.heap.size≤b) (fun w2=>KQ cb nb (InC F0 Fn 2) P' w2 w.heap.size) kind a b what done op rd rs rt im pc cause access addr size old new ev
  (fun w' c=>hP w' (c.blk0 h.m) (hQ.own.chg0 c)) (fun w' c=>(hD w' c).mono fun e w'' ⟨he,h1,h2⟩=>⟨he,⟨h1,c.size⟩,h2⟩) (fun w1 w2 b hq c=>hq.1.keep c hQ.lt hm hlt hq.2)).mono ?_
 rintro e w' ⟨rfl,h1,h2,h3⟩;have hz:=h3.size
 obtain ⟨x',F0',Fn',y',hQ',hP',hF'⟩:=h2
 refine ⟨what,done,op,rd,rs,rt,im,pc,cause,access,addr,size,old,new,ev,rfl,h1,h.s.chg h3 (fun k hk e=>e.elim (hs k hk) (h.sb k hk).2),fun k hk=>⟨by have:=(h.sb k hk).1;omega,(h.sb k hk).2⟩,h.ch.trans (h3.mono (S':=fun k=>w0.heap.size≤k) fun k _ e=>e.elim (hl k) fun e=>by rw [e];exact h.lm) fun _ _ e=>e,h.lm,InC F0' Fn' 2,nb,⟨x',F0',Fn',y',hQ',hP',fun k hk=>.inl hk⟩,hQ'.lt,fun e=>?_,fun k hk e=>?_,fun k hk=>(hF' k hk).elim (hl k) fun e=>by have:=h.ch.size;omega⟩
 ·rcases hF' _ e with e | e
  ·exact hm e
  ·omega
 ·rcases hF' _ e with e | e
  ·exact hs k hk e
  ·have:=(h.sb k hk).1;omega
theorem ms_ran {w0 w:World} {mb cb:Nat} {Sa:Nat→Prop} {v:Value} {f:Nat→Int×Int×Int} {t:Nat→Int} {P P':Cst→(Nat→Nst)→Prop} (h:MSt w0 w mb cb Sa v f t P) (ht:∀k,0≤t k∧t k<1099511627776) (a b:Int)
  (hP:∀{x:Cst} {F0:Nat→Prop} {nb:Nat→Nat} (w':World),MtAt w' mb cb t→COwn w' F0 cb 2 1 nb x→Calls Tryz.prog 48 #[.pointer (some ⟨mb,0,none⟩),.agg #[.int .i64 0,.int .i64 a,.int .i64 b]] w' (RetW (.tuple #[.agg #[.int .i64 0,.int .i64 0,.slice none 0 0,.bool false],.bool false]) fun w''=>Chg NoB w' w''))
  (hD:∀{x:Cst} {F0:Nat→Prop} {Fn:Nat→Nat→Prop} {y:Nat→Nst} {nb:Nat→Nat},QC w F0 Fn cb 2 1 nb x y→P x y→∃(what:Int) (done:Bool) (op rd rs rt im pc cause access addr size old new ev:Int),what=2∧∀w',Chg NoB w w'→Calls Tryz.prog 49 #[.pointer (some ⟨cb,0,none⟩),.agg #[.int .i64 0,.int .i64 a,.int .i64 b]] w' (RetW (.tuple #[.agg #[.int .i64 what,.bool done,.int .i64 op,.int .i64 rd,.int .i64 rs,.int .i64 rt,.int .i64 im,.int .u64 pc,.int .i64 cause,.int .i64 access,.int .u64 addr,.int .i64 size,.int .u64 old,.int .u64 new,.int .i64 ev],.bool true]) fun w''=>KQ cb nb (InC F0 Fn 2) P' w'' w'.heap.size∧Chg (InC F0 Fn 2) w' w'')) :
  Calls Tryz.prog 31 #[.pointer (some ⟨mb,0,none⟩),.agg #[.int .i64 0,.int .i64 a,.int .i64 b]] w (fun e w'=>∃(what:Int) (done:Bool) (op rd rs rt im pc cause access addr size old new ev:Int),e = .returned (.tuple #[.agg #[.int .i64 what,.bool done,.int .i64 op,.int .i64 rd,.int .i64 rs,.int .i64 rt,.int .i64 im,.int .u64 pc,.int .i64 cause,.int .i64 access,.int .u64 addr,.int .i64 size,.int .u64 old,.int .u64 new,.int .i64 ev],.bool true])∧MSt w0 w' mb cb Sa v f (updN (updN t 2 (t 2+1)) 5 ((updN t 2 (t 2+1)) 5+1)) P'):=by
 obtain ⟨x,F0,Fn,y,nb,hQ,hPx,hm,hs,hl⟩:=h.qc
 obtain ⟨what,done,op,rd,rs,rt,im,pc,cause,access,addr,size,old,new,ev,hw,hD⟩:=hD hQ hPx
 have hlt:=h.m.lt
 subst hw;refine (mDo_ran h.m ht (InC F0 Fn 2) hm hQ.lt (fun w1 b=>KQ cb nb (InC F0 Fn 2) P' w1 b∧w.heap.size≤b) (fun w2=>KQ cb nb (InC F0 Fn 2) P' w2 w.heap.size) a b done op rd rs rt im pc cause access addr size old new ev
  (fun w' c=>hP w' (c.blk0 h.m) (hQ.own.chg0 c)) (fun w' c=>(hD w' c).mono fun e w'' ⟨he,h1,h2⟩=>⟨he,⟨h1,c.size⟩,h2⟩) (fun w1 w2 b hq c=>hq.1.keep c hQ.lt hm hlt hq.2)).mono ?_
 rintro e w' ⟨rfl,h1,h2,h3⟩;have hz:=h3.size
 obtain ⟨x',F0',Fn',y',hQ',hP',hF'⟩:=h2
 refine ⟨2,done,op,rd,rs,rt,im,pc,cause,access,addr,size,old,new,ev,rfl,h1,h.s.chg h3 (fun k hk e=>e.elim (hs k hk) (h.sb k hk).2),fun k hk=>⟨by have:=(h.sb k hk).1;omega,(h.sb k hk).2⟩,h.ch.trans (h3.mono (S':=fun k=>w0.heap.size≤k) fun k _ e=>e.elim (hl k) fun e=>by rw [e];exact h.lm) fun _ _ e=>e,h.lm,InC F0' Fn' 2,nb,⟨x',F0',Fn',y',hQ',hP',fun k hk=>.inl hk⟩,hQ'.lt,fun e=>?_,fun k hk e=>?_,fun k hk=>(hF' k hk).elim (hl k) fun e=>by have:=h.ch.size;omega⟩
 ·rcases hF' _ e with e | e
  ·exact hm e
  ·omega
 ·rcases hF' _ e with e | e
  ·exact hs k hk e
  ·have:=(h.sb k hk).1;omega
theorem ms_flt {w0 w:World} {mb cb:Nat} {Sa:Nat→Prop} {v:Value} {f:Nat→Int×Int×Int} {t:Nat→Int} {P P':Cst→(Nat→Nst)→Prop} (h:MSt w0 w mb cb Sa v f t P) (ht:∀k,0≤t k∧t k<1099511627776) (a b:Int)
  (hP:∀{x:Cst} {F0:Nat→Prop} {nb:Nat→Nat} (w':World),MtAt w' mb cb t→COwn w' F0 cb 2 1 nb x→Calls Tryz.prog 48 #[.pointer (some ⟨mb,0,none⟩),.agg #[.int .i64 0,.int .i64 a,.int .i64 b]] w' (RetW (.tuple #[.agg #[.int .i64 0,.int .i64 0,.slice none 0 0,.bool false],.bool false]) fun w''=>Chg NoB w' w''))
  (hD:∀{x:Cst} {F0:Nat→Prop} {Fn:Nat→Nat→Prop} {y:Nat→Nst} {nb:Nat→Nat},QC w F0 Fn cb 2 1 nb x y→P x y→∃(what:Int) (done:Bool) (op rd rs rt im pc cause access addr size old new ev:Int),what=3∧∀w',Chg NoB w w'→Calls Tryz.prog 49 #[.pointer (some ⟨cb,0,none⟩),.agg #[.int .i64 0,.int .i64 a,.int .i64 b]] w' (RetW (.tuple #[.agg #[.int .i64 what,.bool done,.int .i64 op,.int .i64 rd,.int .i64 rs,.int .i64 rt,.int .i64 im,.int .u64 pc,.int .i64 cause,.int .i64 access,.int .u64 addr,.int .i64 size,.int .u64 old,.int .u64 new,.int .i64 ev],.bool true]) fun w''=>KQ cb nb (InC F0 Fn 2) P' w'' w'.heap.size∧Chg (InC F0 Fn 2) w' w'')) :
  Calls Tryz.prog 31 #[.pointer (some ⟨mb,0,none⟩),.agg #[.int .i64 0,.int .i64 a,.int .i64 b]] w (fun e w'=>∃(what:Int) (done:Bool) (op rd rs rt im pc cause access addr size old new ev:Int),e = .returned (.tuple #[.agg #[.int .i64 what,.bool done,.int .i64 op,.int .i64 rd,.int .i64 rs,.int .i64 rt,.int .i64 im,.int .u64 pc,.int .i64 cause,.int .i64 access,.int .u64 addr,.int .i64 size,.int .u64 old,.int .u64 new,.int .i64 ev],.bool true])∧MSt w0 w' mb cb Sa v f (updN (updN t 3 (t 3+1)) 5 ((updN t 3 (t 3+1)) 5+1)) P'):=by
 obtain ⟨x,F0,Fn,y,nb,hQ,hPx,hm,hs,hl⟩:=h.qc
 obtain ⟨what,done,op,rd,rs,rt,im,pc,cause,access,addr,size,old,new,ev,hw,hD⟩:=hD hQ hPx
 have hlt:=h.m.lt
 subst hw;refine (mDo_flt h.m ht (InC F0 Fn 2) hm hQ.lt (fun w1 b=>KQ cb nb (InC F0 Fn 2) P' w1 b∧w.heap.size≤b) (fun w2=>KQ cb nb (InC F0 Fn 2) P' w2 w.heap.size) a b done op rd rs rt im pc cause access addr size old new ev
  (fun w' c=>hP w' (c.blk0 h.m) (hQ.own.chg0 c)) (fun w' c=>(hD w' c).mono fun e w'' ⟨he,h1,h2⟩=>⟨he,⟨h1,c.size⟩,h2⟩) (fun w1 w2 b hq c=>hq.1.keep c hQ.lt hm hlt hq.2)).mono ?_
 rintro e w' ⟨rfl,h1,h2,h3⟩;have hz:=h3.size
 obtain ⟨x',F0',Fn',y',hQ',hP',hF'⟩:=h2
 refine ⟨3,done,op,rd,rs,rt,im,pc,cause,access,addr,size,old,new,ev,rfl,h1,h.s.chg h3 (fun k hk e=>e.elim (hs k hk) (h.sb k hk).2),fun k hk=>⟨by have:=(h.sb k hk).1;omega,(h.sb k hk).2⟩,h.ch.trans (h3.mono (S':=fun k=>w0.heap.size≤k) fun k _ e=>e.elim (hl k) fun e=>by rw [e];exact h.lm) fun _ _ e=>e,h.lm,InC F0' Fn' 2,nb,⟨x',F0',Fn',y',hQ',hP',fun k hk=>.inl hk⟩,hQ'.lt,fun e=>?_,fun k hk e=>?_,fun k hk=>(hF' k hk).elim (hl k) fun e=>by have:=h.ch.size;omega⟩
 ·rcases hF' _ e with e | e
  ·exact hm e
  ·omega
 ·rcases hF' _ e with e | e
  ·exact hs k hk e
  ·have:=(h.sb k hk).1;omega
theorem ms_tick {w0 w:World} {mb cb:Nat} {Sa:Nat→Prop} {v:Value} {f:Nat→Int×Int×Int} {t:Nat→Int} {P P':Cst→(Nat→Nst)→Prop} (h:MSt w0 w mb cb Sa v f t P) (ht:∀k,0≤t k∧t k<1099511627776) (a b:Int)
  (hP:∀{x:Cst} {F0:Nat→Prop} {nb:Nat→Nat} (w':World),MtAt w' mb cb t→COwn w' F0 cb 2 1 nb x→Calls Tryz.prog 48 #[.pointer (some ⟨mb,0,none⟩),.agg #[.int .i64 6,.int .i64 a,.int .i64 b]] w' (RetW (.tuple #[.agg #[.int .i64 0,.int .i64 0,.slice none 0 0,.bool false],.bool false]) fun w''=>Chg NoB w' w''))
  (hD:∀{x:Cst} {F0:Nat→Prop} {Fn:Nat→Nat→Prop} {y:Nat→Nst} {nb:Nat→Nat},QC w F0 Fn cb 2 1 nb x y→P x y→∃(what:Int) (done:Bool) (op rd rs rt im pc cause access addr size old new ev:Int),what=what∧∀w',Chg NoB w w'→Calls Tryz.prog 49 #[.pointer (some ⟨cb,0,none⟩),.agg #[.int .i64 6,.int .i64 a,.int .i64 b]] w' (RetW (.tuple #[.agg #[.int .i64 what,.bool done,.int .i64 op,.int .i64 rd,.int .i64 rs,.int .i64 rt,.int .i64 im,.int .u64 pc,.int .i64 cause,.int .i64 access,.int .u64 addr,.int .i64 size,.int .u64 old,.int .u64 new,.int .i64 ev],.bool true]) fun w''=>KQ cb nb (InC F0 Fn 2) P' w'' w'.heap.size∧Chg (InC F0 Fn 2) w' w'')) :
  Calls Tryz.prog 31 #[.pointer (some ⟨mb,0,none⟩),.agg #[.int .i64 6,.int .i64 a,.int .i64 b]] w (fun e w'=>∃(what:Int) (done:Bool) (op rd rs rt im pc cause access addr size old new ev:Int),e = .returned (.tuple #[.agg #[.int .i64 what,.bool done,.int .i64 op,.int .i64 rd,.int .i64 rs,.int .i64 rt,.int .i64 im,.int .u64 pc,.int .i64 cause,.int .i64 access,.int .u64 addr,.int .i64 size,.int .u64 old,.int .u64 new,.int .i64 ev],.bool true])∧MSt w0 w' mb cb Sa v f (updN t 11 (t 11+1)) P'):=by
 obtain ⟨x,F0,Fn,y,nb,hQ,hPx,hm,hs,hl⟩:=h.qc
 obtain ⟨what,done,op,rd,rs,rt,im,pc,cause,access,addr,size,old,new,ev,hw,hD⟩:=hD hQ hPx
 have hlt:=h.m.lt
 clear hw;refine (mDo_tick h.m ht (InC F0 Fn 2) hm hQ.lt (fun w1 b=>KQ cb nb (InC F0 Fn 2) P' w1 b∧w.heap.size≤b) (fun w2=>KQ cb nb (InC F0 Fn 2) P' w2 w.heap.size) a b what done op rd rs rt im pc cause access addr size old new ev
  (fun w' c=>hP w' (c.blk0 h.m) (hQ.own.chg0 c)) (fun w' c=>(hD w' c).mono fun e w'' ⟨he,h1,h2⟩=>⟨he,⟨h1,c.size⟩,h2⟩) (fun w1 w2 b hq c=>hq.1.keep c hQ.lt hm hlt hq.2)).mono ?_
 rintro e w' ⟨rfl,h1,h2,h3⟩;have hz:=h3.size
 obtain ⟨x',F0',Fn',y',hQ',hP',hF'⟩:=h2
 refine ⟨what,done,op,rd,rs,rt,im,pc,cause,access,addr,size,old,new,ev,rfl,h1,h.s.chg h3 (fun k hk e=>e.elim (hs k hk) (h.sb k hk).2),fun k hk=>⟨by have:=(h.sb k hk).1;omega,(h.sb k hk).2⟩,h.ch.trans (h3.mono (S':=fun k=>w0.heap.size≤k) fun k _ e=>e.elim (hl k) fun e=>by rw [e];exact h.lm) fun _ _ e=>e,h.lm,InC F0' Fn' 2,nb,⟨x',F0',Fn',y',hQ',hP',fun k hk=>.inl hk⟩,hQ'.lt,fun e=>?_,fun k hk e=>?_,fun k hk=>(hF' k hk).elim (hl k) fun e=>by have:=h.ch.size;omega⟩
 ·rcases hF' _ e with e | e
  ·exact hm e
  ·omega
 ·rcases hF' _ e with e | e
  ·exact hs k hk e
  ·have:=(h.sb k hk).1;omega
end Go.Proofs.YtjhnnjgnkkjmkaaGreatDoor
