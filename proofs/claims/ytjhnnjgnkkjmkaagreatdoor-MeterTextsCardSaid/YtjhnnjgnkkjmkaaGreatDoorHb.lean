/- A core: its block, its registers; New, Reg, SetReg, Pc, Run, Trap, Stop. No condition. What cores reckon: truth, told, taken, reckon. No condition but that complex numbers are reckoned by some function. What cores reckon: reckon. No condition but that complex numbers are reckoned by some function. Cores: jump. No condition. -/
import Derived.Test.YtjhnnjgnkkjmkaaGreatDoorGz
import Derived.Test.YtjhnnjgnkkjmkaaGreatDoorGf
set_option maxHeartbeats 2000000
set_option maxRecDepth 100000
set_option linter.unusedVariables false
set_option linter.unusedSimpArgs false
namespace Go.Proofs.YtjhnnjgnkkjmkaaGreatDoor
open Go.RowKit Go.RR
def Cor.cells (c:Cor):Array Value:=#[.int .u64 (c.r 0),.int .u64 (c.r 1),.int .u64 (c.r 2),.int .u64 (c.r 3),.int .u64 (c.r 4),.int .u64 (c.r 5),.int .u64 (c.r 6),.int .u64 (c.r 7),.int .u64 (c.r 8),.int .u64 (c.r 9),.int .u64 (c.r 10),.int .u64 (c.r 11),.int .u64 (c.r 12),.int .u64 (c.r 13),.int .u64 (c.r 14),.int .u64 (c.r 15),.int .u64 c.pc,.int .i64 c.run,.int .i64 c.trap.cause,.int .u64 c.trap.pc,.int .u64 c.trap.addr]
structure CoreAt (w:World) (cb:Nat) (c:Cor):Prop where
 blk:Blk w cb c.cells 183
 r0:c.r 0=0
 lt:∀k,c.r k<18446744073709551616
 pc:c.pc<18446744073709551616
theorem Cor.cells_reg (c:Cor) {n:Nat} (h:n<16):c.cells[n]? = some (.int .u64 (c.r n)):=by
 iterate 16 (rcases n with _ | n;· rfl)
 omega
theorem CoreAt.reg {w:World} {cb:Nat} {c:Cor} (h:CoreAt w cb c) {n:Nat} (hn:n<16):w.cell? ⟨cb,n,none⟩=some (.int .u64 (c.r n)):=h.blk.cell' (c.cells_reg hn)
theorem CoreAt.chg {w w':World} {S:Nat→Prop} {cb:Nat} {c:Cor} (h:CoreAt w cb c) (k:Chg S w w') (hs:¬S cb):CoreAt w' cb c:=⟨k.blk h.blk hs,h.r0,h.lt,h.pc⟩
theorem Cor.cells_set (c:Cor) {n:Nat} (h:n<16) (v:Nat):c.cells.setIfInBounds n (.int .u64 v) = { c with r:=fun k=>if k=n then v else c.r k}.cells:=by
 iterate 16 (rcases n with _ | n;· rfl)
 omega
theorem CoreAt.setReg {w:World} {cb:Nat} {c:Cor} (h:CoreAt w cb c) {n v:Nat} (hn:n<16) (h0:n≠0) (hv:v<18446744073709551616):CoreAt (w.setCell ⟨cb,n,none⟩ (.int .u64 v)) cb (c.set n v):=by
 have e:c.set n v = { c with r:=fun k=>if k=n then v else c.r k}:=by
  unfold Cor.set
  rw [if_pos ⟨by omega,by omega,by omega⟩]
  congr 1
  funext k
  by_cases hk:k=n
  ·rw [if_pos hk,if_pos (by omega)]
  ·rw [if_neg hk,if_neg (by omega)]
 rw [e]
 refine ⟨?_,?_,fun k=>?_,h.pc⟩
 ·have:=h.blk.set n (.int .u64 v)
  rw [c.cells_set hn] at this
  exact this
 ·show (if 0=n then v else c.r 0)=0
  rw [if_neg (by omega)];exact h.r0
 ·show (if k=n then v else c.r k)<_
  split
  ·exact hv
  ·exact h.lt k
theorem CoreAt.setPc {w:World} {cb:Nat} {c:Cor} (h:CoreAt w cb c) {v:Nat} (hv:v<18446744073709551616):CoreAt (w.setCell ⟨cb,16,none⟩ (.int .u64 v)) cb { c with pc:=v}:=⟨h.blk.set 16 _,h.r0,h.lt,hv⟩
theorem CoreAt.setRun {w:World} {cb:Nat} {c:Cor} (h:CoreAt w cb c) (v:Int):CoreAt (w.setCell ⟨cb,17,none⟩ (.int .i64 v)) cb { c with run:=v}:=⟨h.blk.set 17 _,h.r0,h.lt,h.pc⟩
theorem register_any (n:Int) (w:World):Calls Tryz.prog 235 #[.int .i64 n] w (RetW (.bool (decide (0≤n) && decide (n<16))) fun w'=>w'=w):=by
 generalize h1:decide (0≤n)=b1
 generalize h2:decide (n<16)=b2
 cases b1 <;> cases b2 <;>
 ·go_enter Tryz.func235,Tryz.ntmps235;go_wp2_with fail;go_ret;exact ⟨rfl,rfl⟩
def Cor.new (pc:Nat):Cor:=⟨fun _=>0,pc,0,⟨0,0,0⟩⟩
theorem coreNew_any (pc:Nat) (hp:pc<18446744073709551616) (w:World):Calls Tryz.prog 43 #[.int .u64 pc] w (RetW (.pointer (some ⟨w.heap.size,0,none⟩)) fun w'=>CoreAt w' w.heap.size (Cor.new pc)∧Chg NoB w w'):=by
 go_enter Tryz.func43,Tryz.ntmps43;go_wp2_with fail;go_ret;exact ⟨rfl,⟨Blk.new w _ _,rfl,fun _=>by show 0<_;omega,hp⟩,(Chg.refl NoB w).alloc _⟩
theorem coreSet_any {w:World} {cb:Nat} {c:Cor} (h:CoreAt w cb c) (n:Int) (v:Nat) (hv:v<18446744073709551616):Calls Tryz.prog 201 #[.pointer (some ⟨cb,0,none⟩),.int .i64 n,.int .u64 v] w (RetW (.tuple #[]) fun w'=>CoreAt w' cb (c.set n v)∧Chg (fun k=>k=cb) w w'):=by
 have HR:=Lib.hid (fun w=>register_any n w)
 have H:=Lib.hid h
 by_cases hn:0≤n∧n<16
 ·obtain ⟨k,rfl⟩:∃k:Nat,n=k:=⟨n.toNat,by omega⟩
  have hk:k<16:=by omega
  rw [decide_eq_true hn.1,decide_eq_true hn.2] at HR
  by_cases hk0:k=0
  ·subst hk0;have HX:Hid (CoreAt w cb (c.set (0:Nat) v)):=Lib.hid (by unfold Cor.set;rw [if_neg (by simp)];exact h)
   clear h hn;go_enter Tryz.func201,Tryz.ntmps201;go_wp2_with fail;refine (HR.out _).mono ?_
   rintro e w1 ⟨rfl,rfl⟩;go_wp2_with fail;refine bodyPost_end (results_none rfl _ _ _) rfl ?_
   exact ⟨rfl,HX.out,Chg.refl _ _⟩
  ·have t1:((k:Int) != 0)=true:=by simp;omega
   have HX:=Lib.hid (h.setReg hk hk0 hv)
   have f0:=h.reg hk
   have fz:=h.blk.frozen k
   have fl:=h.blk.lt
   have k0:(0:Int)≤k:=by omega
   have k1:(k:Int)<16:=by omega
   have k2:IntKind.i64.wrap (k:Int)=k:=IntWalk.i64_in _ (by omega)
   have k3:(k:Int).toNat=k:=Int.toNat_natCast k
   clear h hn;go_enter Tryz.func201,Tryz.ntmps201;go_wp2_with fail;refine (HR.out _).mono ?_
   rintro e w1 ⟨rfl,rfl⟩;go_wp2_with fail;refine bodyPost_end (results_none rfl _ _ _) rfl ?_
   exact ⟨rfl,HX.out,(Chg.refl (fun k=>k=cb) _).setCell (a:=⟨cb,k,none⟩) (.inl rfl) _⟩
 ·have hf:(decide (0≤n) && decide (n<16))=false:=by
   rw [Bool.and_eq_false_iff,decide_eq_false_iff_not,decide_eq_false_iff_not];omega
  rw [hf] at HR
  have HX:Hid (CoreAt w cb (c.set n v)):=Lib.hid (by unfold Cor.set;rw [if_neg (by omega)];exact h)
  clear h hn hf;go_enter Tryz.func201,Tryz.ntmps201;go_wp2_with fail;refine (HR.out _).mono ?_
  rintro e w1 ⟨rfl,rfl⟩;go_wp2_with fail;refine bodyPost_end (results_none rfl _ _ _) rfl ?_
  exact ⟨rfl,HX.out,Chg.refl _ _⟩
theorem coreRun_any {w:World} {cb:Nat} {c:Cor} (h:CoreAt w cb c):Calls Tryz.prog 134 #[.pointer (some ⟨cb,0,none⟩)] w (RetW (.int .i64 c.run) fun w'=>w'=w):=by
 have f0:=h.blk.cell' (i:=17) (v:=.int .i64 c.run) rfl
 have fl:=h.blk.lt
 clear h;go_enter Tryz.func134,Tryz.ntmps134;go_wp2_with fail;go_ret;exact ⟨rfl,rfl⟩
def Trp.agg (t:Trp):Value:=.agg #[.int .i64 t.cause,.int .u64 t.pc,.int .u64 t.addr]
structure CxOk (X:Cx):Prop where
 add:∀a b:Nat,a<18446744073709551616→b<18446744073709551616→X.add a b<18446744073709551616∧∀w,Calls Tryz.prog 267 #[.int .u64 a,.int .u64 b] w (RetW (.int .u64 (X.add a b)) fun w'=>w'=w)
 sub:∀a b:Nat,a<18446744073709551616→b<18446744073709551616→X.sub a b<18446744073709551616∧∀w,Calls Tryz.prog 268 #[.int .u64 a,.int .u64 b] w (RetW (.int .u64 (X.sub a b)) fun w'=>w'=w)
 mul:∀a b:Nat,a<18446744073709551616→b<18446744073709551616→X.mul a b<18446744073709551616∧∀w,Calls Tryz.prog 269 #[.int .u64 a,.int .u64 b] w (RetW (.int .u64 (X.mul a b)) fun w'=>w'=w)
 conj:∀a:Nat,a<18446744073709551616→X.conj a<18446744073709551616∧∀w,Calls Tryz.prog 270 #[.int .u64 a] w (RetW (.int .u64 (X.conj a)) fun w'=>w'=w)
 norm:∀a:Nat,a<18446744073709551616→X.norm a<18446744073709551616∧∀w,Calls Tryz.prog 271 #[.int .u64 a] w (RetW (.int .u64 (X.norm a)) fun w'=>w'=w)
theorem wrap_sof (a:Nat) (h:a<18446744073709551616):wrap64 (a:Int)=sof a:=by
 unfold wrap64 sof
 split <;> omega
theorem uof_int (n:Int):((uof n:Nat):Int)=n%18446744073709551616:=by unfold uof;omega
theorem uof_lt (n:Int):uof n<18446744073709551616:=by unfold uof;omega
theorem truth_any (b:Bool) (w:World):Calls Tryz.prog 233 #[.bool b] w (RetW (.int .u64 (if b then 1 else 0:Nat)) fun w'=>w'=w):=by
 cases b <;>
 ·go_enter Tryz.func233,Tryz.ntmps233;go_wp2_with fail;go_ret;exact ⟨rfl,rfl⟩
theorem told_any (o:Int) (v:Nat) (hv:v<18446744073709551616) (w:World):Calls Tryz.prog 231 #[.int .i64 o,.int .u64 v] w (RetW (.int .u64 (toldF o v)) fun w'=>w'=w):=by
 have HS:=Lib.hid (signed_any o)
 have HZ:=Lib.hid (isize_any o)
 have HG:=Lib.hid (fun w=>sign_any v (sizeI o) w hv)
 have HT:Hid (toldF o v=if signedI o then signW v (sizeI o) else v):=Lib.hid rfl
 generalize signedI o=b at HS HT
 rw [HT.out]
 clear hv;cases b
 ·go_enter Tryz.func231,Tryz.ntmps231;go_wp2_with fail;refine (HS.out _).mono ?_
  rintro e w1 ⟨rfl,rfl⟩;go_wp2_with fail;go_ret;exact ⟨rfl,rfl⟩
 ·go_enter Tryz.func231,Tryz.ntmps231;go_wp2_with fail;refine (HS.out _).mono ?_
  rintro e w1 ⟨rfl,rfl⟩;go_wp2_with fail;refine (HZ.out _).mono ?_
  rintro e w1 ⟨rfl,rfl⟩;go_wp2_with fail;refine (HG.out _).mono ?_
  rintro e w1 ⟨rfl,rfl⟩;go_wp2_with fail;go_ret;exact ⟨rfl,rfl⟩
theorem taken_any (o:Int) (a b:Nat) (ha:a<18446744073709551616) (hb:b<18446744073709551616) (w:World):Calls Tryz.prog 232 #[.int .i64 o,.int .u64 a,.int .u64 b] w (RetW (.bool (takenB o a b)) fun w'=>w'=w):=by
 have HT:Hid (takenB o a b=if o=15 then decide (a=b) else if o=16 then decide (a≠b) else if o=17 then decide (sof a<sof b) else decide (o=18)):=Lib.hid rfl
 have s1:=wrap_sof a ha
 have s2:=wrap_sof b hb
 have e1:((a:Int) == (b:Int))=decide (a=b):=by rw [Bool.eq_iff_iff];simp;omega
 have e2:((a:Int) != (b:Int))=decide (a≠b):=by rw [Bool.eq_iff_iff];simp;omega
 obtain ⟨x1,hx1⟩:∃x,decide (a=b)=x:=⟨_,rfl⟩
 obtain ⟨x2,hx2⟩:∃x,decide (a≠b)=x:=⟨_,rfl⟩
 obtain ⟨x3,hx3⟩:∃x,decide (sof a<sof b)=x:=⟨_,rfl⟩
 rw [hx1] at e1
 rw [hx2] at e2
 rw [hx1,hx2,hx3] at HT
 clear hx1 hx2 ha hb;by_cases h1:o=15
 ·subst h1;rw [HT.out]
  go_enter Tryz.func232,Tryz.ntmps232;go_wp2_with fail;go_ret;exact ⟨rfl,rfl⟩
 ·by_cases h2:o=16
  ·subst h2;rw [HT.out]
   go_enter Tryz.func232,Tryz.ntmps232;go_wp2_with fail;go_ret;exact ⟨rfl,rfl⟩
  ·by_cases h3:o=17
   ·subst h3;rw [HT.out]
    go_enter Tryz.func232,Tryz.ntmps232;go_wp2_with fail;go_ret;exact ⟨rfl,rfl⟩
   ·have n1:(o == 15)=false:=beq_eq_false_iff_ne.2 h1
    have n2:(o == 16)=false:=beq_eq_false_iff_ne.2 h2
    have n3:(o == 17)=false:=beq_eq_false_iff_ne.2 h3
    rw [HT.out,if_neg h1,if_neg h2,if_neg h3]
    have n4:(o == 18)=decide (o=18):=by rw [Bool.eq_iff_iff];simp
    obtain ⟨x,hx⟩:∃x,decide (o=18)=x:=⟨_,rfl⟩
    rw [hx] at n4 ⊢
    clear h1 h2 h3 hx;go_enter Tryz.func232,Tryz.ntmps232;go_wp2_with fail;go_ret;exact ⟨rfl,rfl⟩
theorem cx_add {X:Cx} (hX:CxOk X) (a b:Nat) (ha:a<18446744073709551616) (hb:b<18446744073709551616) (w:World):Calls Tryz.prog 234 #[.int .i64 10,.int .u64 a,.int .u64 b] w (RetW (.tuple #[.int .u64 (X.add a b:Nat),.bool true]) fun w'=>w'=w):=by
 have HC:=Lib.hid (hX.add a b ha hb)
 clear ha hb hX;go_enter Tryz.func234,Tryz.ntmps234;go_wp2_with fail;refine (HC.out.2 _).mono ?_
 rintro e w1 ⟨rfl,rfl⟩;go_wp2_with fail;go_ret2
 exact ⟨rfl,rfl⟩
theorem cx_sub {X:Cx} (hX:CxOk X) (a b:Nat) (ha:a<18446744073709551616) (hb:b<18446744073709551616) (w:World):Calls Tryz.prog 234 #[.int .i64 11,.int .u64 a,.int .u64 b] w (RetW (.tuple #[.int .u64 (X.sub a b:Nat),.bool true]) fun w'=>w'=w):=by
 have HC:=Lib.hid (hX.sub a b ha hb)
 clear ha hb hX;go_enter Tryz.func234,Tryz.ntmps234;go_wp2_with fail;refine (HC.out.2 _).mono ?_
 rintro e w1 ⟨rfl,rfl⟩;go_wp2_with fail;go_ret2
 exact ⟨rfl,rfl⟩
theorem cx_mul {X:Cx} (hX:CxOk X) (a b:Nat) (ha:a<18446744073709551616) (hb:b<18446744073709551616) (w:World):Calls Tryz.prog 234 #[.int .i64 12,.int .u64 a,.int .u64 b] w (RetW (.tuple #[.int .u64 (X.mul a b:Nat),.bool true]) fun w'=>w'=w):=by
 have HC:=Lib.hid (hX.mul a b ha hb)
 clear ha hb hX;go_enter Tryz.func234,Tryz.ntmps234;go_wp2_with fail;refine (HC.out.2 _).mono ?_
 rintro e w1 ⟨rfl,rfl⟩;go_wp2_with fail;go_ret2
 exact ⟨rfl,rfl⟩
theorem cx_conj {X:Cx} (hX:CxOk X) (a b:Nat) (ha:a<18446744073709551616) (hb:b<18446744073709551616) (w:World):Calls Tryz.prog 234 #[.int .i64 13,.int .u64 a,.int .u64 b] w (RetW (.tuple #[.int .u64 (X.conj a:Nat),.bool true]) fun w'=>w'=w):=by
 have HC:=Lib.hid (hX.conj a ha)
 clear ha hb hX;go_enter Tryz.func234,Tryz.ntmps234;go_wp2_with fail;refine (HC.out.2 _).mono ?_
 rintro e w1 ⟨rfl,rfl⟩;go_wp2_with fail;go_ret2
 exact ⟨rfl,rfl⟩
theorem cx_norm {X:Cx} (hX:CxOk X) (a b:Nat) (ha:a<18446744073709551616) (hb:b<18446744073709551616) (w:World):Calls Tryz.prog 234 #[.int .i64 14,.int .u64 a,.int .u64 b] w (RetW (.tuple #[.int .u64 (X.norm a:Nat),.bool true]) fun w'=>w'=w):=by
 have HC:=Lib.hid (hX.norm a ha)
 clear ha hb hX;go_enter Tryz.func234,Tryz.ntmps234;go_wp2_with fail;refine (HC.out.2 _).mono ?_
 rintro e w1 ⟨rfl,rfl⟩;go_wp2_with fail;go_ret2
 exact ⟨rfl,rfl⟩
theorem shl_w (a k:Nat) (hk:k<64):IntKind.u64.wrap ((a:Int)*2 ^ (min k 64))=((a*2 ^ k%18446744073709551616:Nat):Int):=by
 have h:(a:Int)*2 ^ k=((a*2 ^ k:Nat):Int):=(Int.natCast_mul a (2 ^ k)).symm▸(Int.natCast_pow 2 k).symm▸rfl
 rw [Nat.min_eq_left (by omega),IntKind.wrap_u64,h]
 generalize a*2 ^ k=P
 omega
theorem u64_or (a b:Nat) (ha:a<18446744073709551616) (hb:b<18446744073709551616):bits .or .u64 (a:Int) (b:Int)=((a ||| b:Nat):Int):=u64_or_nat a b ha hb
theorem u64_xor (a b:Nat) (ha:a<18446744073709551616) (hb:b<18446744073709551616):bits .xor .u64 (a:Int) (b:Int)=((a ^^^ b:Nat):Int):=u64_xor_nat a b ha hb
theorem rk1 {X:Cx}  (rd rs rt im:Int) (hi : -2048≤im∧im≤2047) (a b:Nat) (ha:a<18446744073709551616) (hb:b<18446744073709551616) (w:World) :
  Calls Tryz.prog 200 #[In.agg ⟨1,rd,rs,rt,im⟩,.int .u64 a,.int .u64 b] w (RetW (.tuple #[.int .u64 (reckonF X ⟨1,rd,rs,rt,im⟩ a b),.bool true]) fun w'=>Chg NoB w w'):=by
 unfold In.agg
 have hA:Chg NoB w (w.alloc (.cells #[.int .i64 1,.int .i64 rd,.int .i64 rs,.int .i64 rt,.int .i64 im] 50)):=(Chg.refl NoB w).alloc _
 obtain ⟨r,hr⟩:∃r,reckonF X ⟨1,rd,rs,rt,im⟩ a b=r:=⟨_,rfl⟩
 have u1:IntKind.u64.wrap im=((uof im:Nat):Int):=by rw [IntKind.wrap_u64,uof_int]
 have u2:=uof_lt im
 rw [hr]
 have hr:uof im=r:=hr;rw [hr] at u1 u2
 clear hr;go_enter Tryz.func200,Tryz.ntmps200;go_wp2_with fail;skip
 go_ret2
 exact ⟨rfl,hA⟩
theorem rk2 {X:Cx}  (rd rs rt im:Int) (hi : -2048≤im∧im≤2047) (a b:Nat) (ha:a<18446744073709551616) (hb:b<18446744073709551616) (w:World) :
  Calls Tryz.prog 200 #[In.agg ⟨2,rd,rs,rt,im⟩,.int .u64 a,.int .u64 b] w (RetW (.tuple #[.int .u64 (reckonF X ⟨2,rd,rs,rt,im⟩ a b),.bool true]) fun w'=>Chg NoB w w'):=by
 unfold In.agg
 have hA:Chg NoB w (w.alloc (.cells #[.int .i64 2,.int .i64 rd,.int .i64 rs,.int .i64 rt,.int .i64 im] 50)):=(Chg.refl NoB w).alloc _
 obtain ⟨r,hr⟩:∃r,reckonF X ⟨2,rd,rs,rt,im⟩ a b=r:=⟨_,rfl⟩
 have u1:IntKind.u64.wrap im=((uof im:Nat):Int):=by rw [IntKind.wrap_u64,uof_int]
 have u2:=uof_lt im
 rw [hr]
 have hr:(a+uof im)%18446744073709551616=r:=hr;generalize uof im=u at *;have q:IntKind.u64.wrap ((a:Int)+(u:Int))=(r:Int):=by rw [IntKind.wrap_u64];omega
 clear hr;go_enter Tryz.func200,Tryz.ntmps200;go_wp2_with fail;skip
 go_ret2
 exact ⟨rfl,hA⟩
theorem rk3 {X:Cx}  (rd rs rt im:Int) (hi : -2048≤im∧im≤2047) (a b:Nat) (ha:a<18446744073709551616) (hb:b<18446744073709551616) (w:World) :
  Calls Tryz.prog 200 #[In.agg ⟨3,rd,rs,rt,im⟩,.int .u64 a,.int .u64 b] w (RetW (.tuple #[.int .u64 (reckonF X ⟨3,rd,rs,rt,im⟩ a b),.bool true]) fun w'=>Chg NoB w w'):=by
 unfold In.agg
 have hA:Chg NoB w (w.alloc (.cells #[.int .i64 3,.int .i64 rd,.int .i64 rs,.int .i64 rt,.int .i64 im] 50)):=(Chg.refl NoB w).alloc _
 obtain ⟨r,hr⟩:∃r,reckonF X ⟨3,rd,rs,rt,im⟩ a b=r:=⟨_,rfl⟩
 have u1:IntKind.u64.wrap im=((uof im:Nat):Int):=by rw [IntKind.wrap_u64,uof_int]
 have u2:=uof_lt im
 rw [hr]
 have hr:a*2 ^ (uof im%64)%18446744073709551616=r:=hr;have m:bits .and .u64 ((uof im:Nat):Int) 63=((uof im%64:Nat):Int):=and_mask _ 6 u2 (by omega);have q:=shl_w a (uof im%64) (by omega);rw [hr] at q;generalize uof im=u at *;generalize u%64=u6 at *;clear hr;go_enter Tryz.func200,Tryz.ntmps200;go_wp2_with fail;skip
 go_ret2
 exact ⟨rfl,hA⟩
theorem rk4 {X:Cx}  (rd rs rt im:Int) (hi : -2048≤im∧im≤2047) (a b:Nat) (ha:a<18446744073709551616) (hb:b<18446744073709551616) (w:World) :
  Calls Tryz.prog 200 #[In.agg ⟨4,rd,rs,rt,im⟩,.int .u64 a,.int .u64 b] w (RetW (.tuple #[.int .u64 (reckonF X ⟨4,rd,rs,rt,im⟩ a b),.bool true]) fun w'=>Chg NoB w w'):=by
 unfold In.agg
 have hA:Chg NoB w (w.alloc (.cells #[.int .i64 4,.int .i64 rd,.int .i64 rs,.int .i64 rt,.int .i64 im] 50)):=(Chg.refl NoB w).alloc _
 obtain ⟨r,hr⟩:∃r,reckonF X ⟨4,rd,rs,rt,im⟩ a b=r:=⟨_,rfl⟩
 have u1:IntKind.u64.wrap im=((uof im:Nat):Int):=by rw [IntKind.wrap_u64,uof_int]
 have u2:=uof_lt im
 rw [hr]
 have hr:(a+b)%18446744073709551616=r:=hr;have q:IntKind.u64.wrap ((a:Int)+(b:Int))=(r:Int):=by rw [IntKind.wrap_u64];omega
 clear hr;go_enter Tryz.func200,Tryz.ntmps200;go_wp2_with fail;skip
 go_ret2
 exact ⟨rfl,hA⟩
theorem rk5 {X:Cx}  (rd rs rt im:Int) (hi : -2048≤im∧im≤2047) (a b:Nat) (ha:a<18446744073709551616) (hb:b<18446744073709551616) (w:World) :
  Calls Tryz.prog 200 #[In.agg ⟨5,rd,rs,rt,im⟩,.int .u64 a,.int .u64 b] w (RetW (.tuple #[.int .u64 (reckonF X ⟨5,rd,rs,rt,im⟩ a b),.bool true]) fun w'=>Chg NoB w w'):=by
 unfold In.agg
 have hA:Chg NoB w (w.alloc (.cells #[.int .i64 5,.int .i64 rd,.int .i64 rs,.int .i64 rt,.int .i64 im] 50)):=(Chg.refl NoB w).alloc _
 obtain ⟨r,hr⟩:∃r,reckonF X ⟨5,rd,rs,rt,im⟩ a b=r:=⟨_,rfl⟩
 have u1:IntKind.u64.wrap im=((uof im:Nat):Int):=by rw [IntKind.wrap_u64,uof_int]
 have u2:=uof_lt im
 rw [hr]
 have hr:(a+(18446744073709551616 - b))%18446744073709551616=r:=hr;have q:IntKind.u64.wrap ((a:Int) - (b:Int))=(r:Int):=by rw [IntKind.wrap_u64];omega
 clear hr;go_enter Tryz.func200,Tryz.ntmps200;go_wp2_with fail;skip
 go_ret2
 exact ⟨rfl,hA⟩
theorem rk6 {X:Cx}  (rd rs rt im:Int) (hi : -2048≤im∧im≤2047) (a b:Nat) (ha:a<18446744073709551616) (hb:b<18446744073709551616) (w:World) :
  Calls Tryz.prog 200 #[In.agg ⟨6,rd,rs,rt,im⟩,.int .u64 a,.int .u64 b] w (RetW (.tuple #[.int .u64 (reckonF X ⟨6,rd,rs,rt,im⟩ a b),.bool true]) fun w'=>Chg NoB w w'):=by
 unfold In.agg
 have hA:Chg NoB w (w.alloc (.cells #[.int .i64 6,.int .i64 rd,.int .i64 rs,.int .i64 rt,.int .i64 im] 50)):=(Chg.refl NoB w).alloc _
 obtain ⟨r,hr⟩:∃r,reckonF X ⟨6,rd,rs,rt,im⟩ a b=r:=⟨_,rfl⟩
 have u1:IntKind.u64.wrap im=((uof im:Nat):Int):=by rw [IntKind.wrap_u64,uof_int]
 have u2:=uof_lt im
 rw [hr]
 have hr:a &&& b=r:=hr;have q:=u64_and_nat a b ha hb;rw [hr] at q
 clear hr;go_enter Tryz.func200,Tryz.ntmps200;go_wp2_with fail;skip
 go_ret2
 exact ⟨rfl,hA⟩
theorem rk7 {X:Cx}  (rd rs rt im:Int) (hi : -2048≤im∧im≤2047) (a b:Nat) (ha:a<18446744073709551616) (hb:b<18446744073709551616) (w:World) :
  Calls Tryz.prog 200 #[In.agg ⟨7,rd,rs,rt,im⟩,.int .u64 a,.int .u64 b] w (RetW (.tuple #[.int .u64 (reckonF X ⟨7,rd,rs,rt,im⟩ a b),.bool true]) fun w'=>Chg NoB w w'):=by
 unfold In.agg
 have hA:Chg NoB w (w.alloc (.cells #[.int .i64 7,.int .i64 rd,.int .i64 rs,.int .i64 rt,.int .i64 im] 50)):=(Chg.refl NoB w).alloc _
 obtain ⟨r,hr⟩:∃r,reckonF X ⟨7,rd,rs,rt,im⟩ a b=r:=⟨_,rfl⟩
 have u1:IntKind.u64.wrap im=((uof im:Nat):Int):=by rw [IntKind.wrap_u64,uof_int]
 have u2:=uof_lt im
 rw [hr]
 have hr:a ||| b=r:=hr;have q:=u64_or a b ha hb;rw [hr] at q
 clear hr;go_enter Tryz.func200,Tryz.ntmps200;go_wp2_with fail;skip
 go_ret2
 exact ⟨rfl,hA⟩
theorem rk8 {X:Cx}  (rd rs rt im:Int) (hi : -2048≤im∧im≤2047) (a b:Nat) (ha:a<18446744073709551616) (hb:b<18446744073709551616) (w:World) :
  Calls Tryz.prog 200 #[In.agg ⟨8,rd,rs,rt,im⟩,.int .u64 a,.int .u64 b] w (RetW (.tuple #[.int .u64 (reckonF X ⟨8,rd,rs,rt,im⟩ a b),.bool true]) fun w'=>Chg NoB w w'):=by
 unfold In.agg
 have hA:Chg NoB w (w.alloc (.cells #[.int .i64 8,.int .i64 rd,.int .i64 rs,.int .i64 rt,.int .i64 im] 50)):=(Chg.refl NoB w).alloc _
 obtain ⟨r,hr⟩:∃r,reckonF X ⟨8,rd,rs,rt,im⟩ a b=r:=⟨_,rfl⟩
 have u1:IntKind.u64.wrap im=((uof im:Nat):Int):=by rw [IntKind.wrap_u64,uof_int]
 have u2:=uof_lt im
 rw [hr]
 have hr:a ^^^ b=r:=hr;have q:=u64_xor a b ha hb;rw [hr] at q
 clear hr;go_enter Tryz.func200,Tryz.ntmps200;go_wp2_with fail;skip
 go_ret2
 exact ⟨rfl,hA⟩
theorem rk9 {X:Cx}  (rd rs rt im:Int) (hi : -2048≤im∧im≤2047) (a b:Nat) (ha:a<18446744073709551616) (hb:b<18446744073709551616) (w:World) :
  Calls Tryz.prog 200 #[In.agg ⟨9,rd,rs,rt,im⟩,.int .u64 a,.int .u64 b] w (RetW (.tuple #[.int .u64 (reckonF X ⟨9,rd,rs,rt,im⟩ a b),.bool true]) fun w'=>Chg NoB w w'):=by
 unfold In.agg
 have hA:Chg NoB w (w.alloc (.cells #[.int .i64 9,.int .i64 rd,.int .i64 rs,.int .i64 rt,.int .i64 im] 50)):=(Chg.refl NoB w).alloc _
 obtain ⟨r,hr⟩:∃r,reckonF X ⟨9,rd,rs,rt,im⟩ a b=r:=⟨_,rfl⟩
 have u1:IntKind.u64.wrap im=((uof im:Nat):Int):=by rw [IntKind.wrap_u64,uof_int]
 have u2:=uof_lt im
 rw [hr]
 have hr:(if sof a<sof b then 1 else 0)=r:=hr;have s1:=wrap_sof a ha;have s2:=wrap_sof b hb;have HT:=Lib.hid (fun w=>truth_any (decide (sof a<sof b)) w);have HR:Hid ((if (decide (sof a<sof b))=true then 1 else 0:Nat)=r):=Lib.hid (by rw [←hr];simp);rw [HR.out] at HT
 clear hr;go_enter Tryz.func200,Tryz.ntmps200;go_wp2_with fail;refine (HT.out _).mono ?_;rintro e w1 ⟨rfl,rfl⟩;go_wp2_with fail
 go_ret2
 exact ⟨rfl,hA⟩
theorem rk10 {X:Cx} (hX:CxOk X) (rd rs rt im:Int) (hi : -2048≤im∧im≤2047) (a b:Nat) (ha:a<18446744073709551616) (hb:b<18446744073709551616) (w:World) :
  Calls Tryz.prog 200 #[In.agg ⟨10,rd,rs,rt,im⟩,.int .u64 a,.int .u64 b] w (RetW (.tuple #[.int .u64 (reckonF X ⟨10,rd,rs,rt,im⟩ a b),.bool true]) fun w'=>Chg NoB w w'):=by
 unfold In.agg
 have hA:Chg NoB w (w.alloc (.cells #[.int .i64 10,.int .i64 rd,.int .i64 rs,.int .i64 rt,.int .i64 im] 50)):=(Chg.refl NoB w).alloc _
 obtain ⟨r,hr⟩:∃r,reckonF X ⟨10,rd,rs,rt,im⟩ a b=r:=⟨_,rfl⟩
 have u1:IntKind.u64.wrap im=((uof im:Nat):Int):=by rw [IntKind.wrap_u64,uof_int]
 have u2:=uof_lt im
 rw [hr]
 have hr:X.add a b=r:=hr;have HT:=Lib.hid (fun w=>cx_add hX a b ha hb w);rw [hr] at HT
 clear hr;go_enter Tryz.func200,Tryz.ntmps200;go_wp2_with fail;refine (HT.out _).mono ?_;rintro e w1 ⟨rfl,rfl⟩;go_wp2_with fail
 go_ret2
 exact ⟨rfl,hA⟩
theorem rk11 {X:Cx} (hX:CxOk X) (rd rs rt im:Int) (hi : -2048≤im∧im≤2047) (a b:Nat) (ha:a<18446744073709551616) (hb:b<18446744073709551616) (w:World) :
  Calls Tryz.prog 200 #[In.agg ⟨11,rd,rs,rt,im⟩,.int .u64 a,.int .u64 b] w (RetW (.tuple #[.int .u64 (reckonF X ⟨11,rd,rs,rt,im⟩ a b),.bool true]) fun w'=>Chg NoB w w'):=by
 unfold In.agg
 have hA:Chg NoB w (w.alloc (.cells #[.int .i64 11,.int .i64 rd,.int .i64 rs,.int .i64 rt,.int .i64 im] 50)):=(Chg.refl NoB w).alloc _
 obtain ⟨r,hr⟩:∃r,reckonF X ⟨11,rd,rs,rt,im⟩ a b=r:=⟨_,rfl⟩
 have u1:IntKind.u64.wrap im=((uof im:Nat):Int):=by rw [IntKind.wrap_u64,uof_int]
 have u2:=uof_lt im
 rw [hr]
 have hr:X.sub a b=r:=hr;have HT:=Lib.hid (fun w=>cx_sub hX a b ha hb w);rw [hr] at HT
 clear hr;go_enter Tryz.func200,Tryz.ntmps200;go_wp2_with fail;refine (HT.out _).mono ?_;rintro e w1 ⟨rfl,rfl⟩;go_wp2_with fail
 go_ret2
 exact ⟨rfl,hA⟩
theorem rk12 {X:Cx} (hX:CxOk X) (rd rs rt im:Int) (hi : -2048≤im∧im≤2047) (a b:Nat) (ha:a<18446744073709551616) (hb:b<18446744073709551616) (w:World) :
  Calls Tryz.prog 200 #[In.agg ⟨12,rd,rs,rt,im⟩,.int .u64 a,.int .u64 b] w (RetW (.tuple #[.int .u64 (reckonF X ⟨12,rd,rs,rt,im⟩ a b),.bool true]) fun w'=>Chg NoB w w'):=by
 unfold In.agg
 have hA:Chg NoB w (w.alloc (.cells #[.int .i64 12,.int .i64 rd,.int .i64 rs,.int .i64 rt,.int .i64 im] 50)):=(Chg.refl NoB w).alloc _
 obtain ⟨r,hr⟩:∃r,reckonF X ⟨12,rd,rs,rt,im⟩ a b=r:=⟨_,rfl⟩
 have u1:IntKind.u64.wrap im=((uof im:Nat):Int):=by rw [IntKind.wrap_u64,uof_int]
 have u2:=uof_lt im
 rw [hr]
 have hr:X.mul a b=r:=hr;have HT:=Lib.hid (fun w=>cx_mul hX a b ha hb w);rw [hr] at HT
 clear hr;go_enter Tryz.func200,Tryz.ntmps200;go_wp2_with fail;refine (HT.out _).mono ?_;rintro e w1 ⟨rfl,rfl⟩;go_wp2_with fail
 go_ret2
 exact ⟨rfl,hA⟩
theorem rk13 {X:Cx} (hX:CxOk X) (rd rs rt im:Int) (hi : -2048≤im∧im≤2047) (a b:Nat) (ha:a<18446744073709551616) (hb:b<18446744073709551616) (w:World) :
  Calls Tryz.prog 200 #[In.agg ⟨13,rd,rs,rt,im⟩,.int .u64 a,.int .u64 b] w (RetW (.tuple #[.int .u64 (reckonF X ⟨13,rd,rs,rt,im⟩ a b),.bool true]) fun w'=>Chg NoB w w'):=by
 unfold In.agg
 have hA:Chg NoB w (w.alloc (.cells #[.int .i64 13,.int .i64 rd,.int .i64 rs,.int .i64 rt,.int .i64 im] 50)):=(Chg.refl NoB w).alloc _
 obtain ⟨r,hr⟩:∃r,reckonF X ⟨13,rd,rs,rt,im⟩ a b=r:=⟨_,rfl⟩
 have u1:IntKind.u64.wrap im=((uof im:Nat):Int):=by rw [IntKind.wrap_u64,uof_int]
 have u2:=uof_lt im
 rw [hr]
 have hr:X.conj a=r:=hr;have HT:=Lib.hid (fun w=>cx_conj hX a b ha hb w);rw [hr] at HT
 clear hr;go_enter Tryz.func200,Tryz.ntmps200;go_wp2_with fail;refine (HT.out _).mono ?_;rintro e w1 ⟨rfl,rfl⟩;go_wp2_with fail
 go_ret2
 exact ⟨rfl,hA⟩
theorem rk14 {X:Cx} (hX:CxOk X) (rd rs rt im:Int) (hi : -2048≤im∧im≤2047) (a b:Nat) (ha:a<18446744073709551616) (hb:b<18446744073709551616) (w:World) :
  Calls Tryz.prog 200 #[In.agg ⟨14,rd,rs,rt,im⟩,.int .u64 a,.int .u64 b] w (RetW (.tuple #[.int .u64 (reckonF X ⟨14,rd,rs,rt,im⟩ a b),.bool true]) fun w'=>Chg NoB w w'):=by
 unfold In.agg
 have hA:Chg NoB w (w.alloc (.cells #[.int .i64 14,.int .i64 rd,.int .i64 rs,.int .i64 rt,.int .i64 im] 50)):=(Chg.refl NoB w).alloc _
 obtain ⟨r,hr⟩:∃r,reckonF X ⟨14,rd,rs,rt,im⟩ a b=r:=⟨_,rfl⟩
 have u1:IntKind.u64.wrap im=((uof im:Nat):Int):=by rw [IntKind.wrap_u64,uof_int]
 have u2:=uof_lt im
 rw [hr]
 have hr:X.norm a=r:=hr;have HT:=Lib.hid (fun w=>cx_norm hX a b ha hb w);rw [hr] at HT
 clear hr;go_enter Tryz.func200,Tryz.ntmps200;go_wp2_with fail;refine (HT.out _).mono ?_;rintro e w1 ⟨rfl,rfl⟩;go_wp2_with fail
 go_ret2
 exact ⟨rfl,hA⟩
theorem lt_ite {p:Prop} [Decidable p] {x y z:Nat} (h1:x<z) (h2:y<z):(if p then x else y)<z:=by
 by_cases h:p
 ·rw [if_pos h];exact h1
 ·rw [if_neg h];exact h2
def CxFor (X:Cx) (o:Int):Prop:=10≤o∧o≤14→CxOk X
theorem lt_iteD {p:Prop} [Decidable p] {x y z:Nat} (h1:p→x<z) (h2:y<z):(if p then x else y)<z:=by
 by_cases h:p
 ·rw [if_pos h];exact h1 h
 ·rw [if_neg h];exact h2
theorem reckonF_lt {X:Cx} (i:In) (hX:CxFor X i.op) {a b:Nat} (ha:a<18446744073709551616) (hb:b<18446744073709551616):reckonF X i a b<18446744073709551616:=by
 unfold reckonF
 have hm:∀x:Nat,x%18446744073709551616<18446744073709551616:=fun x=>Nat.mod_lt _ (by omega)
 refine lt_ite (uof_lt _) (lt_ite (hm _) (lt_ite (hm _) (lt_ite (hm _) (lt_ite (hm _) (lt_ite (Nat.lt_of_le_of_lt Nat.and_le_left ha) (lt_ite ?_ (lt_ite ?_ (lt_ite (lt_ite (by omega) (by omega)) (lt_iteD (fun e=>((hX ⟨by omega,by omega⟩).add a b ha hb).1) (lt_iteD (fun e=>((hX ⟨by omega,by omega⟩).sub a b ha hb).1) (lt_iteD (fun e=>((hX ⟨by omega,by omega⟩).mul a b ha hb).1) (lt_iteD (fun e=>((hX ⟨by omega,by omega⟩).conj a ha).1) (lt_iteD (fun e=>((hX ⟨by omega,by omega⟩).norm a ha).1) (by omega))))))))))))))
 ·exact Nat.or_lt_two_pow (n:=64) ha hb
 ·exact Nat.xor_lt_two_pow (n:=64) ha hb
theorem reckon_any {X:Cx} (i:In) (hX:CxFor X i.op) (ho:1≤i.op∧i.op≤14) (hi : -2048≤i.im∧i.im≤2047) (a b:Nat) (ha:a<18446744073709551616) (hb:b<18446744073709551616) (w:World) :
  Calls Tryz.prog 200 #[i.agg,.int .u64 a,.int .u64 b] w (RetW (.tuple #[.int .u64 (reckonF X i a b),.bool true]) fun w'=>Chg NoB w w'):=by
 obtain ⟨o,rd,rs,rt,im⟩:=i
 dsimp only at ho hi
 have h:o=1∨o=2∨o=3∨o=4∨o=5∨o=6∨o=7∨o=8∨o=9∨o=10∨o=11∨o=12∨o=13∨o=14:=by omega
 rcases h with rfl | rfl | rfl | rfl | rfl | rfl | rfl | rfl | rfl | rfl | rfl | rfl | rfl | rfl
 ·exact rk1 rd rs rt im hi a b ha hb w
 ·exact rk2 rd rs rt im hi a b ha hb w
 ·exact rk3 rd rs rt im hi a b ha hb w
 ·exact rk4 rd rs rt im hi a b ha hb w
 ·exact rk5 rd rs rt im hi a b ha hb w
 ·exact rk6 rd rs rt im hi a b ha hb w
 ·exact rk7 rd rs rt im hi a b ha hb w
 ·exact rk8 rd rs rt im hi a b ha hb w
 ·exact rk9 rd rs rt im hi a b ha hb w
 ·exact rk10 (hX ⟨by dsimp only;omega,by dsimp only;omega⟩) rd rs rt im hi a b ha hb w
 ·exact rk11 (hX ⟨by dsimp only;omega,by dsimp only;omega⟩) rd rs rt im hi a b ha hb w
 ·exact rk12 (hX ⟨by dsimp only;omega,by dsimp only;omega⟩) rd rs rt im hi a b ha hb w
 ·exact rk13 (hX ⟨by dsimp only;omega,by dsimp only;omega⟩) rd rs rt im hi a b ha hb w
 ·exact rk14 (hX ⟨by dsimp only;omega,by dsimp only;omega⟩) rd rs rt im hi a b ha hb w
structure In.Ok (i:In):Prop where
 d0:0≤i.rd
 d1:i.rd≤15
 s0:0≤i.rs
 s1:i.rs≤15
 t0:0≤i.rt
 t1:i.rt≤15
 i0 : -2048≤i.im
 i1:i.im≤2047
 k:kd i.op≠.z
 o0:0≤i.op
 o1:i.op≤34
theorem okr_in {r:Int} {h:Bool} (e:okr r h=true):0≤r∧r≤15:=by
 unfold okr at e
 simp only [Bool.and_eq_true,decide_eq_true_eq] at e
 exact ⟨e.1.2,e.2⟩
theorem In.ok {i:In} (h:rightB i=true):i.Ok:=by
 unfold rightB at h
 simp only [Bool.and_eq_true,decide_eq_true_eq,Bool.not_eq_true',decide_eq_false_iff_not] at h
 obtain ⟨⟨⟨⟨⟨⟨h1,h2⟩,h3⟩,h4⟩,h5⟩,h6⟩,h7⟩:=h
 have hd:=okr_in h4
 have hs:=okr_in h5
 have ht:=okr_in h6
 refine ⟨hd.1,hd.2,hs.1,hs.2,ht.1,ht.2,h2,h3,h1,?_,?_⟩
 ·by_cases e:i.op<0
  ·exact absurd (kd_neg e) h1
  ·omega
 ·by_cases e:35≤i.op
  ·exact absurd (kd_big e) h1
  ·omega
theorem CoreAt.ever {w:World} {cb:Nat} {c:Cor} (h:CoreAt w cb c) {n:Nat} (hn:n<16):∀w',Chg NoB w w'→w'.cell? ⟨cb,n,none⟩=some (.int .u64 (c.r n)):=fun w' k=>(h.chg k id).reg hn
theorem jump_any {w:World} {cb:Nat} {c:Cor} (h:CoreAt w cb c) (i:In) (hi:i.Ok):Calls Tryz.prog 199 #[.pointer (some ⟨cb,0,none⟩),i.agg] w (RetW (.tuple #[]) fun w'=>CoreAt w' cb (jumpF c i)∧Chg (fun k=>k=cb) w w'):=by
 obtain ⟨o,rd,rs,rt,im⟩:=i
 have hk1:=hi.s0
 have hk2:=hi.s1
 have hk3:=hi.t0
 have hk4:=hi.t1
 have hk5:=hi.i0
 have hk6:=hi.i1
 dsimp only at hk1 hk2 hk3 hk4 hk5 hk6
 obtain ⟨q,rfl⟩:∃q:Nat,rs=q:=⟨rs.toNat,by omega⟩
 obtain ⟨p,rfl⟩:∃p:Nat,rt=p:=⟨rt.toNat,by omega⟩
 have hq:q<16:=by omega
 have hp:p<16:=by omega
 obtain ⟨J,hJ⟩:∃J,jumpF c ⟨o,rd,q,p,im⟩=J:=⟨_,rfl⟩
 obtain ⟨tk,htk⟩:∃b,takenB o (c.r q) (c.r p)=b:=⟨_,rfl⟩
 have HJ:Hid (J=(let c1:Cor:={ c with pc:=if tk=true then (c.pc+uof im*4)%18446744073709551616 else (c.pc+4)%18446744073709551616};if o=18 then c1.set rd ((c.pc+4)%18446744073709551616) else c1)):=Lib.hid (by rw [←hJ,←htk];rfl)
 rw [hJ]
 have hpl:=h.pc
 have HT:=Lib.hid (fun w=>taken_any o (c.r q) (c.r p) (h.lt q) (h.lt p) w)
 rw [htk] at HT
 unfold In.agg
 dsimp only
 have hB:=Blk.new w #[.int .i64 o,.int .i64 rd,.int .i64 q,.int .i64 p,.int .i64 im] 50
 have hA:Chg NoB w (w.alloc (.cells #[.int .i64 o,.int .i64 rd,.int .i64 q,.int .i64 p,.int .i64 im] 50)):=(Chg.refl NoB w).alloc _
 have hbl:=h.blk.lt
 have H:=Lib.hid h
 have f16:=h.blk.cell' (i:=16) (v:=.int .u64 c.pc) rfl
 obtain ⟨pc,hpc⟩:∃pc,c.pc=pc:=⟨_,rfl⟩
 obtain ⟨x,hx⟩:∃x,c.r q=x:=⟨_,rfl⟩
 obtain ⟨y,hy⟩:∃y,c.r p=y:=⟨_,rfl⟩
 obtain ⟨im4,him⟩:∃u,uof im=u:=⟨_,rfl⟩
 have u1:IntKind.u64.wrap im=(im4:Int):=by rw [IntKind.wrap_u64,←him,uof_int]
 have d1:=h.ever hq
 have d2:=h.ever hp
 rw [hpc] at f16 hpl
 rw [hx] at HT d1
 rw [hy] at HT d2
 obtain ⟨dst,hd⟩:∃d,(if tk=true then (pc+im4*4)%18446744073709551616 else (pc+4)%18446744073709551616)=d:=⟨_,rfl⟩
 obtain ⟨nx,hnx⟩:∃d,(pc+4)%18446744073709551616=d:=⟨_,rfl⟩
 rw [hpc,him,hd,hnx] at HJ
 have n1:IntKind.u64.wrap ((pc:Int)+4)=(nx:Int):=by rw [IntKind.wrap_u64];omega
 have n2:tk=true→IntKind.u64.wrap ((pc:Int)+IntKind.u64.wrap ((im4:Int)*4))=(dst:Int):=fun e=>by rw [if_pos e] at hd;rw [IntKind.wrap_u64,IntKind.wrap_u64];omega
 have n3:tk=false→(dst:Int)=nx:=fun e=>by rw [if_neg (by simp [e]),hnx] at hd;omega
 have hdl:dst<18446744073709551616:=by rw [←hd];split <;> omega
 have hnl:nx<18446744073709551616:=by omega
 have a1:IntKind.i64.wrap (q:Int)=q:=IntWalk.i64_in _ (by omega)
 have a2:IntKind.i64.wrap (p:Int)=p:=IntWalk.i64_in _ (by omega)
 have a3:(q:Int)<16:=by omega
 have a4:(p:Int)<16:=by omega
 have a5:(q:Int).toNat=q:=Int.toNat_natCast q
 have a6:(p:Int).toNat=p:=Int.toNat_natCast p
 clear hJ htk h hi hpc hx hy him hd hnx hk2 hk4 hk5 hk6 hq hp hpl;go_enter Tryz.func199,Tryz.ntmps199;go_upto_region 2 with fail;generalize hwA:w.alloc (.cells #[.int .i64 o,.int .i64 rd,.int .i64 q,.int .i64 p,.int .i64 im] 50)=wA at *;obtain ⟨ib,hib⟩:∃ib,w.heap.size=ib:=⟨_,rfl⟩
 rw [hib] at hB ⊢
 have HA:=Lib.hid hA
 have HBI:=Lib.hid hB
 have g:=hB.ever
 have gl:=hB.everL
 have e1:∀w',Chg NoB wA w'→w'.cell? ⟨cb,q,none⟩=some (.int .u64 x):=fun w' k=>d1 w' (hA.step k)
 have e2:∀w',Chg NoB wA w'→w'.cell? ⟨cb,p,none⟩=some (.int .u64 y):=fun w' k=>d2 w' (hA.step k)
 have el:∀w',Chg NoB wA w'→cb<w'.heap.size:=fun w' k=>(H.out.chg (hA.step k) id).blk.lt
 have cc:=Chg.refl NoB wA
 clear hwA hib hB hA d1 d2 f16 hbl;refine wp_region_mix 16 [(true,0),(true,1),(true,2),(true,3),(true,4),(true,5),(true,6),(true,7),(true,8),(true,9),(true,10),(true,11),(true,12),(true,13),(true,14),(true,15)] (fun w'=>Chg NoB wA w') (by kernel_rfl) (by kernel_rfl) (fun _ _ _ _ _ h=>h) (cc.drew) ?_
 simp only [pickMix_nil,pickMix_cons,Option.getD_some,List.getElem?_toArray,List.getElem?_cons_zero,List.getElem?_cons_succ,List.cons_append,List.nil_append,List.drop_succ_cons,List.drop_zero]
 iterate 16
  refine wpMix_take rfl ?_;apply Exists.intro;refine ⟨fun wS hS=>?_,?_⟩
  ·try dsimp only at hS
   have cS:=hS
   go_simp;try rfl
  simp only [Act.put,List.setIfInBounds_toArray,List.set_cons_zero,List.set_cons_succ]
 refine wpMix_nil ?_
 go_wp2_with fail;refine (HT.out _).mono ?_
 rintro e w1 ⟨rfl,hw1⟩;subst hw1;have BI:=(cc.drew).blk0 HBI.out
 have HW:=Lib.hid (H.out.chg (HA.out.step cc.drew) id)
 have HC:=Lib.hid (HA.out.step cc.drew)
 clear g gl e1 e2 el HA HBI H HT cc;generalize wA.drew=wd at *;have i0:=BI.cell' (i:=0) (v:=.int .i64 o) rfl
 have i1:=BI.cell' (i:=1) (v:=.int .i64 rd) rfl
 have i4:=BI.cell' (i:=4) (v:=.int .i64 im) rfl
 have il:=BI.lt
 have hwl:=HW.out.blk.lt
 have y16:=HW.out.blk.cell' (i:=16) (v:=.int .u64 c.pc) rfl
 have hz:=HW.out.blk.frozen
 have hne:¬ib=cb:=fun e=>by
  subst e;have:=(HW.out.blk.inj BI).1
  have:=congrArg Array.size this
  simp [Cor.cells] at this
 have HW1:=Lib.hid (HW.out.setPc hdl)
 have HN:Hid (CoreAt (wd.setCell ⟨cb,16,none⟩ (.int .u64 dst)) cb { c with pc:=dst}∧Chg (fun k=>k=cb) w (wd.setCell ⟨cb,16,none⟩ (.int .u64 dst))):=Lib.hid ⟨HW1.out,(HC.out.mono (S':=fun k=>k=cb) fun _ _ e=>e.elim).setCell (a:=⟨cb,16,none⟩) (.inl rfl) _⟩
 have HJ2:Hid (J=if o=18 then ({ c with pc:=dst} : Cor).set rd nx else { c with pc:=dst}):=HJ
 have HSt:=Lib.hid (coreSet_any HW1.out rd nx hnl)
 clear HW HW1 HC BI HJ;cases tk with
 | true=>
  have n2:=n2 rfl
  clear n3;by_cases ho:o=18
  ·subst ho;have HO:Hid (J=({ c with pc:=dst} : Cor).set rd _):=HJ2
   go_wp2_with fail;refine HSt.out.mono ?_
   rintro e w2 ⟨rfl,hx2,hc2⟩;have HX:Hid (CoreAt w2 cb J∧Chg (fun k=>k=cb) w w2):=Lib.hid ⟨by rw [HO.out];exact hx2,HN.out.2.step hc2⟩
   clear hx2 hc2;go_wp2_with fail;go_end0
   exact ⟨rfl,HX.out⟩
  ·have t1:(o == 18)=false:=beq_eq_false_iff_ne.2 ho
   have HO:Hid (J = { c with pc:=dst}):=Lib.hid (by rw [HJ2.out,if_neg ho])
   clear ho;go_wp2_with fail;go_end0
   exact ⟨rfl,by rw [HO.out];exact HN.out⟩
 | false=>
  have n3:dst=nx:=by have:=n3 rfl;omega
  subst n3;clear n2;by_cases ho:o=18
  ·subst ho;have HO:Hid (J=({ c with pc:=dst} : Cor).set rd _):=HJ2
   go_wp2_with fail;refine HSt.out.mono ?_
   rintro e w2 ⟨rfl,hx2,hc2⟩;have HX:Hid (CoreAt w2 cb J∧Chg (fun k=>k=cb) w w2):=Lib.hid ⟨by rw [HO.out];exact hx2,HN.out.2.step hc2⟩
   clear hx2 hc2;go_wp2_with fail;go_end0
   exact ⟨rfl,HX.out⟩
  ·have t1:(o == 18)=false:=beq_eq_false_iff_ne.2 ho
   have HO:Hid (J = { c with pc:=dst}):=Lib.hid (by rw [HJ2.out,if_neg ho])
   clear ho;go_wp2_with fail;go_end0
   exact ⟨rfl,by rw [HO.out];exact HN.out⟩
end Go.Proofs.YtjhnnjgnkkjmkaaGreatDoor
