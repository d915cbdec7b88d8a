/- The buffer of entries: finding in it. No condition. -/
import Derived.Test.YtjhnnjgnkkjmkaaGreatDoorGm
import Derived.Test.YtjhnnjgnkkjmkaaGreatDoorGe
import Derived.Deep.LoopGhost
set_option maxHeartbeats 2000000
set_option maxRecDepth 100000
set_option linter.unusedVariables false
set_option linter.unusedSimpArgs false
namespace Go.Proofs.YtjhnnjgnkkjmkaaGreatDoor
open Go.RowKit Go.RR
def Leaf.oval (l:Option Leaf):Value:=match l with
 | some l=>.tuple #[.agg #[.bool l.p.v,.bool l.p.r,.bool l.p.w,.bool l.p.x,.bool l.p.u,.bool l.p.g,.bool l.p.a,.bool l.p.d,.int .i64 l.p.rsw,.int .u64 l.p.ppn,.int .i64 l.level,.int .u64 l.pos],.bool true]
 | none=>.tuple #[.agg #[.bool Leaf.zero.p.v,.bool Leaf.zero.p.r,.bool Leaf.zero.p.w,.bool Leaf.zero.p.x,.bool Leaf.zero.p.u,.bool Leaf.zero.p.g,.bool Leaf.zero.p.a,.bool Leaf.zero.p.d,.int .i64 Leaf.zero.p.rsw,.int .u64 Leaf.zero.p.ppn,.int .i64 Leaf.zero.level,.int .u64 Leaf.zero.pos],.bool false]
def tlbR (b:Tlb) (va:Nat) (asid:Int):Nat→Option Leaf
 | 0=>none
 | n+1=>match waysFind (tlbSet b (pageOf va (2 - (n:Int)))) va asid (2 - (n:Int)) with
  | some l=>some l
  | none=>tlbR b va asid n
theorem tlbR_all (b:Tlb) (va:Nat) (asid:Int):tlbR b va asid 3=tlbFind b va asid:=by
 show (match waysFind (tlbSet b (pageOf va 0)) va asid 0 with | some l=>some l | none=>match waysFind (tlbSet b (pageOf va 1)) va asid 1 with | some l=>some l | none=>match waysFind (tlbSet b (pageOf va 2)) va asid 2 with | some l=>some l | none=>none)=tlbFind b va asid
 unfold tlbFind
 cases waysFind (tlbSet b (pageOf va 0)) va asid 0 with
 | some l=>rfl
 | none=>cases waysFind (tlbSet b (pageOf va 1)) va asid 1 with
  | some l=>rfl
  | none=>cases waysFind (tlbSet b (pageOf va 2)) va asid 2 <;> rfl
def orElse (a b:Option Leaf):Option Leaf:=match a with
 | some l=>some l
 | none=>b
theorem tlbR_step (b:Tlb) (va:Nat) (asid L:Int) (h0:0≤L) (h1:L<3):tlbR b va asid (3 - L).toNat=orElse (waysFind (tlbSet b (pageOf va L)) va asid L) (tlbR b va asid (3 - (L+1)).toNat):=by
 obtain ⟨n,hn⟩:∃n:Nat,(3 - L).toNat=n+1:=⟨(3 - L).toNat - 1,by omega⟩
 rw [hn,show (3 - (L+1)).toNat=n by omega]
 have:L=2 - (n:Int):=by omega
 subst this;rfl
theorem waysFind_step {s:List Way} {k:Nat} {e:Way} (h:s[k]? = some e) (va:Nat) (asid l:Int):waysFind (s.drop k) va asid l=if decide (e.leaf.level=l) && e.matches va asid then some e.leaf else waysFind (s.drop (k+1)) va asid l:=by
 obtain ⟨hk,rfl⟩:=List.getElem?_eq_some_iff.1 h
 rw [List.drop_eq_getElem_cons hk]
 unfold waysFind
 rw [List.find?_cons]
 cases hb:(decide (s[k].leaf.level=l) && s[k].matches va asid) <;> simp
theorem waysFind_end (s:List Way) (va:Nat) (asid l:Int):waysFind (s.drop s.length) va asid l=none:=by
 rw [List.drop_length];rfl
theorem tlbFind_any {S:Nat→Prop} {w:World} {bb:Nat} {b:Tlb} (h:TlbAt w S bb b) (va:Nat) (asid:Int) (hv:va<18446744073709551616) :
  Calls Tryz.prog 287 #[.pointer (some ⟨bb,0,none⟩),.int .u64 va,.int .i64 asid] w (RetW (Leaf.oval (tlbFind b va asid)) fun w'=>Chg NoB w w'):=by
 rw [←tlbR_all]
 obtain ⟨R,hR⟩:∃R,tlbR b va asid 3=R:=⟨_,rfl⟩
 rw [hR]
 have HR:=Lib.hid hR
 obtain ⟨ob,cap,W,gs,cur,h⟩:=h
 have HPg:=Lib.hid fun (l:Int) (hl:levelB l=true) w'=>tlbPage_any va l w' hv hl
 have hpl:∀l,pageOf va l<18446744073709551616:=fun l=>by
  unfold pageOf
  have:=vpn_lt va
  exact Nat.lt_of_le_of_lt (Nat.div_le_self _ _) (by omega)
 have HMt:=Lib.hid fun (e:Way) (he:levelB e.leaf.level=true) w'=>wayMatches_any e va asid w' hv he
 have HC:=Lib.hid ((Chg.refl NoB w).alloc (.cells #[.bool false,.bool false,.bool false,.bool false,.bool false,.bool false,.bool false,.bool false,.int .i64 0,.int .u64 0,.int .i64 0,.int .u64 0] 428))
 have HB:=Lib.hid (Blk.new w #[.bool false,.bool false,.bool false,.bool false,.bool false,.bool false,.bool false,.bool false,.int .i64 0,.int .u64 0,.int .i64 0,.int .u64 0] 428)
 have hT:=Lib.hid h
 clear h hR;go_enter Tryz.func287,Tryz.ntmps287;go_wp2_with fail;generalize w.alloc (.cells #[.bool false,.bool false,.bool false,.bool false,.bool false,.bool false,.bool false,.bool false,.int .i64 0,.int .u64 0,.int .i64 0,.int .u64 0] 428)=w0 at *;have HT:=Lib.hid (hT.out.chg0 HC.out)
 have HSet:=Lib.hid fun w' (c:Chg NoB w0 w') pg hp=>tlbSet_any (TlbIn.chg0 HT.out c) pg hp
 have fr:=HB.out.ever
 have fz:=HB.out.everF
 have lr:=HB.out.everL
 clear hT HB;have hW:=HT.out.w2
 go_loopg [14] 3 (fun k v wr=>∃L:Int,v = .int .i64 L∧0≤L∧L≤3∧k=(3 - L).toNat∧tlbR b va asid (3 - L).toNat=R∧Chg NoB w0 wr)
 case atStart=>exact ⟨0,rfl,by omega,by omega,rfl,HR.out,Chg.refl _ _⟩
 case round=>
  obtain ⟨L,rfl,h0,h3,hk,hRL,cr⟩:=hrel
  have HK:=Lib.hid hk
  have HRL:=Lib.hid hRL
  clear hk hRL;by_cases hlt:L<3
  ·have t1:decide (L<3)=true:=decide_eq_true hlt
   have hlB:levelB L=true:=by unfold levelB;rw [decide_eq_true h0,t1];rfl
   have HS:=Lib.hid (tlbR_step b va asid L h0 hlt)
   rw [HRL.out] at HS
   obtain ⟨P,hP⟩:∃P,pageOf va L=P:=⟨_,rfl⟩
   have HPg1:=Lib.hid fun w'=>HPg.out L hlB w'
   have HSet1:=Lib.hid fun w' c=>HSet.out w' c (pageOf va L) (hpl L)
   rw [hP] at HPg1 HSet1 HS
   obtain ⟨s,hs⟩:∃s,b[P%b.length]? = some s:=by
    have:=HT.out.l1
    exact ⟨b[P%b.length]'(Nat.mod_lt _ (by omega)),List.getElem?_eq_getElem _⟩
   have hts:tlbSet b P=s:=by unfold tlbSet;rw [List.getD_eq_getElem?_getD,hs];rfl
   rw [hts] at HS
   obtain ⟨hrow,hsl,-,hok⟩:=HT.out.rows _ _ hs
   obtain ⟨G,hG⟩:∃G,gs (P%b.length)=G:=⟨_,rfl⟩
   rw [hG] at HSet1 hrow
   have HRow:=Lib.hid hrow
   have HOk:=Lib.hid hok
   have HSl:=Lib.hid hsl
   have lg:=hrow.everL
   clear hpl hP hs hts hG hrow hok hsl hlB;go_wp2_with fail;with_reducible refine (HPg1.out _).mono ?_
   rintro e w1 ⟨rfl,hw1⟩;subst hw1;go_wp2_with fail;with_reducible refine (HSet1.out _ cr).mono ?_
   rintro e w2 ⟨rfl,C2⟩;have C2:=cr.step C2
   go_wp2_with fail;go_loopg [23] W (fun k v wr=>∃i:Nat,v = .int .i64 i∧i≤W∧k=W - i∧Chg NoB w0 wr∧orElse (waysFind (s.drop i) va asid L) (tlbR b va asid (3 - (L+1)).toNat)=R)
   case atStart=>exact ⟨0,rfl,by omega,by omega,C2,HS.out.symm⟩
   case round=>
    obtain ⟨i,rfl,hiW,hki,ci,hRi⟩:=hrel
    have HKi:=Lib.hid hki
    have HRi:=Lib.hid hRi
    clear hki hRi HS;by_cases hi:i<W
    ·obtain ⟨e,he⟩:∃e,s[i]? = some e:=⟨s[i]'(by rw [HSl.out];exact hi),List.getElem?_eq_getElem _⟩
     have heo:=HOk.out e (List.mem_of_getElem? he)
     have HSt:=Lib.hid (waysFind_step he va asid L)
     have HMt1:=Lib.hid fun w'=>HMt.out e heo.lv w'
     obtain ⟨M,hM⟩:∃M,e.matches va asid=M:=⟨_,rfl⟩
     obtain ⟨q,hq⟩:∃q,(e.leaf.level == L)=q:=⟨_,rfl⟩
     rw [hM,show decide (e.leaf.level=L)=q from hq] at HSt
     rw [hM] at HMt1
     have hc:∀j,j<15→∀w',Chg NoB w0 w'→w'.cell? ⟨G,i*15+j,none⟩=e.cs[j]?:=fun j hj w' c=>by
      rw [((c.blk0 HRow.out).cell (i*15+j)),List.getElem?_toArray,Nat.mul_comm,wcells_get he hj]
     clear hM he heo;obtain ⟨full,asd,pg,⟨v,r,pw,x,u,g,a,d,rsw,ppn⟩,level,pos⟩:=e
     dsimp only at hq HMt1 HSt
     have g0:∀w',Chg NoB w0 w'→w'.cell? ⟨G,i*15,none⟩=some (.bool full):=fun w' c=>hc 0 (by omega) w' c
     have g1:∀w',Chg NoB w0 w'→w'.cell? ⟨G,i*15+1,none⟩=some (.int .i64 asd):=fun w' c=>hc 1 (by omega) w' c
     have g2:∀w',Chg NoB w0 w'→w'.cell? ⟨G,i*15+2,none⟩=some (.int .u64 pg):=fun w' c=>hc 2 (by omega) w' c
     have g3:∀w',Chg NoB w0 w'→w'.cell? ⟨G,i*15+3,none⟩=some (.bool v):=fun w' c=>hc 3 (by omega) w' c
     have g4:∀w',Chg NoB w0 w'→w'.cell? ⟨G,i*15+4,none⟩=some (.bool r):=fun w' c=>hc 4 (by omega) w' c
     have g5:∀w',Chg NoB w0 w'→w'.cell? ⟨G,i*15+5,none⟩=some (.bool pw):=fun w' c=>hc 5 (by omega) w' c
     have g6:∀w',Chg NoB w0 w'→w'.cell? ⟨G,i*15+6,none⟩=some (.bool x):=fun w' c=>hc 6 (by omega) w' c
     have g7:∀w',Chg NoB w0 w'→w'.cell? ⟨G,i*15+7,none⟩=some (.bool u):=fun w' c=>hc 7 (by omega) w' c
     have g8:∀w',Chg NoB w0 w'→w'.cell? ⟨G,i*15+8,none⟩=some (.bool g):=fun w' c=>hc 8 (by omega) w' c
     have g9:∀w',Chg NoB w0 w'→w'.cell? ⟨G,i*15+9,none⟩=some (.bool a):=fun w' c=>hc 9 (by omega) w' c
     have g10:∀w',Chg NoB w0 w'→w'.cell? ⟨G,i*15+10,none⟩=some (.bool d):=fun w' c=>hc 10 (by omega) w' c
     have g11:∀w',Chg NoB w0 w'→w'.cell? ⟨G,i*15+11,none⟩=some (.int .i64 rsw):=fun w' c=>hc 11 (by omega) w' c
     have g12:∀w',Chg NoB w0 w'→w'.cell? ⟨G,i*15+12,none⟩=some (.int .u64 ppn):=fun w' c=>hc 12 (by omega) w' c
     have g13:∀w',Chg NoB w0 w'→w'.cell? ⟨G,i*15+13,none⟩=some (.int .i64 level):=fun w' c=>hc 13 (by omega) w' c
     have g14:∀w',Chg NoB w0 w'→w'.cell? ⟨G,i*15+14,none⟩=some (.int .u64 pos):=fun w' c=>hc 14 (by omega) w' c
     clear hc;have t2:decide ((i:Int)<W)=true:=decide_eq_true (by omega)
     have t3:decide (i<W)=true:=decide_eq_true hi
     have HBz:=Lib.hid (Blk.new wr #[.bool full,.int .i64 asd,.int .u64 pg,.bool v,.bool r,.bool pw,.bool x,.bool u,.bool g,.bool a,.bool d,.int .i64 rsw,.int .u64 ppn,.int .i64 level,.int .u64 pos] 473)
     have HCz:=Lib.hid (ci.alloc (.cells #[.bool full,.int .i64 asd,.int .u64 pg,.bool v,.bool r,.bool pw,.bool x,.bool u,.bool g,.bool a,.bool d,.int .i64 rsw,.int .u64 ppn,.int .i64 level,.int .u64 pos] 473))
     go_upto_region 9 with fail;generalize wr.alloc (.cells #[.bool full,.int .i64 asd,.int .u64 pg,.bool v,.bool r,.bool pw,.bool x,.bool u,.bool g,.bool a,.bool d,.int .i64 rsw,.int .u64 ppn,.int .i64 level,.int .u64 pos] 473)=wz at *;have z1:=HBz.out.ever
     have lz:=HBz.out.everL
     have cz:=HCz.out
     have cz0:=Chg.refl NoB wz
     obtain ⟨zb,hzb⟩:∃zb,wr.heap.size=zb:=⟨_,rfl⟩
     rw [hzb] at z1 lz ⊢
     clear hzb HBz g0 g1 g2 g3 g4 g5 g6 g7 g8 g9 g10 g11 g12 g13 g14 ci;cases q
     ·have HN:Hid (orElse (waysFind (s.drop (i+1)) va asid L) (tlbR b va asid (3 - (L+1)).toNat)=R):=Lib.hid (by rw [←HRi.out,HSt.out];simp)
      go_wp2_with fail;go_roundg (W - (i+1))
      case rel=>exact ⟨i+1,by go_num,by omega,rfl,cz,HN.out⟩
      case measure=>rw [HKi.out];omega
     cases M
     ·have HN:Hid (orElse (waysFind (s.drop (i+1)) va asid L) (tlbR b va asid (3 - (L+1)).toNat)=R):=Lib.hid (by rw [←HRi.out,HSt.out];simp)
      go_wp2_with fail;with_reducible refine (HMt1.out _).mono ?_
      rintro e w3 ⟨rfl,C3⟩;have C3':=cz.step C3
      go_wp2_with fail;go_roundg (W - (i+1))
      case rel=>exact ⟨i+1,by go_num,by omega,rfl,C3',HN.out⟩
      case measure=>rw [HKi.out];omega
     ·have HN:Hid (R=some ⟨⟨v,r,pw,x,u,g,a,d,rsw,ppn⟩,level,pos⟩):=Lib.hid (by rw [←HRi.out,HSt.out];rfl)
      go_wp2_with fail;with_reducible refine (HMt1.out _).mono ?_
      rintro e w3 ⟨rfl,C3⟩;have C3':=cz.step C3
      have HE:=Lib.hid (HC.out.step C3')
      go_wp2_with fail;exact bodyPost_ret (v:=.tuple #[.agg #[.bool v,.bool r,.bool pw,.bool x,.bool u,.bool g,.bool a,.bool d,.int .i64 rsw,.int .u64 ppn,.int .i64 level,.int .u64 pos],.bool true]) (by simp [results,Tryz.results287,go_sem,fr,lr,C3']) rfl ⟨by rw [HN.out];rfl,((((((((((((HE.out.setCell (.inr (Nat.le_refl _)) _).setCell (.inr (Nat.le_refl _)) _).setCell (.inr (Nat.le_refl _)) _).setCell (.inr (Nat.le_refl _)) _).setCell (.inr (Nat.le_refl _)) _).setCell (.inr (Nat.le_refl _)) _).setCell (.inr (Nat.le_refl _)) _).setCell (.inr (Nat.le_refl _)) _).setCell (.inr (Nat.le_refl _)) _).setCell (.inr (Nat.le_refl _)) _).setCell (.inr (Nat.le_refl _)) _).setCell (.inr (Nat.le_refl _)) _)⟩
    ·have t3:decide (i<W)=false:=decide_eq_false hi
     have HN:Hid (tlbR b va asid (3 - (L+1)).toNat=R):=Lib.hid (by
      rw [←HRi.out,show i=s.length by rw [HSl.out];omega,waysFind_end];rfl)
     go_wp2_with fail;go_roundg (3 - (L+1)).toNat
     case rel=>exact ⟨L+1,rfl,by omega,by omega,rfl,HN.out,ci⟩
     case measure=>rw [HK.out];omega
  ·have t1:decide (L<3)=false:=decide_eq_false hlt
   have HN:Hid (R=none):=Lib.hid (by rw [←HRL.out,show (3 - L).toNat=0 by omega];rfl)
   have HE:=Lib.hid (HC.out.step cr)
   go_wp2_with fail;exact bodyPost_ret (v:=.tuple #[.agg #[.bool false,.bool false,.bool false,.bool false,.bool false,.bool false,.bool false,.bool false,.int .i64 0,.int .u64 0,.int .i64 0,.int .u64 0],.bool false]) (by simp [results,Tryz.results287,go_sem,fr,lr,cr]) rfl ⟨by rw [HN.out];rfl,((((((((((((HE.out.setCell (.inr (Nat.le_refl _)) _).setCell (.inr (Nat.le_refl _)) _).setCell (.inr (Nat.le_refl _)) _).setCell (.inr (Nat.le_refl _)) _).setCell (.inr (Nat.le_refl _)) _).setCell (.inr (Nat.le_refl _)) _).setCell (.inr (Nat.le_refl _)) _).setCell (.inr (Nat.le_refl _)) _).setCell (.inr (Nat.le_refl _)) _).setCell (.inr (Nat.le_refl _)) _).setCell (.inr (Nat.le_refl _)) _).setCell (.inr (Nat.le_refl _)) _)⟩
end Go.Proofs.YtjhnnjgnkkjmkaaGreatDoor
