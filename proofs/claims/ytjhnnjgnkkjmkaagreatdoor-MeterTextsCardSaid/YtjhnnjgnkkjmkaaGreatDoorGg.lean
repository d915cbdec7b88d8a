/- A node's memory: new, pages read and laid. No condition. Entries of page tables: flags, places, addresses. No condition. -/
import Derived.Test.YtjhnnjgnkkjmkaaGreatDoorGf
import Derived.Test.YtjhnnjgnkkjmkaaGreatDoorGd
import Derived.Test.YtjhnnjgnkkjmkaaGreatDoorGa
import Derived.Laws.CopyOwn
import Derived.Laws.CopyRow
import Derived.MakeChecks
import Derived.Test.YtjhnnjgnkkjmkaaGreatDoorGe
set_option maxHeartbeats 4000000
set_option maxRecDepth 100000
set_option linter.unusedVariables false
set_option linter.unusedSimpArgs false
namespace Go.Proofs.YtjhnnjgnkkjmkaaGreatDoor
open Go.RowKit Go.RR
theorem memNew_any (n:Int) (w:World) (h1:1≤n) (h2:n≤1048576):Calls Tryz.prog 58 #[.int .i64 n] w (RetW (.tuple #[.pointer (some ⟨w.heap.size+1,0,none⟩),.int .i64 0]) fun w'=>MemAt w' (fun k=>w.heap.size≤k) (w.heap.size+1) (fun _=>0) n.toNat∧Chg NoB w w'):=by
 have hmk:∀w,(Instr.makeMap 215 none).run Tryz.prog w = .ok (.map (some w.heap.size)) (w.alloc (.map #[] 0)):=fun _=>rfl
 have t1:decide (n<1)=false:=decide_eq_false (by omega)
 have t2:decide (1048576<n)=false:=decide_eq_false (by omega)
 have HN:Hid (((n.toNat:Nat):Int)=n):=Lib.hid (by omega)
 have hz:(w.alloc (.map #[] 0)).heap.size=w.heap.size+1:=by simp
 go_enter Tryz.func58,Tryz.ntmps58;go_wp2_with fail;go_ret2
 refine ⟨rfl,⟨w.heap.size,[],by show w.heap.size≤w.heap.size+1;omega,Nat.le_refl _,by omega,?_,?_,⟨fun p h=>(by cases h),fun p h=>(by cases h),fun p h=>(by cases h),fun _ _ _ _=>rfl,fun _=>by show 0<256;omega⟩⟩,((Chg.refl NoB w).alloc _).alloc _⟩
 ·have:=Blk.new (w.alloc (.map #[] 0)) #[.map (some w.heap.size),.int .i64 n] 217
  rw [hz] at this
  rw [HN.out]
  exact this
 ·exact (MapAt.new w .i64).chg ((Chg.refl NoB _).alloc _) id
theorem frame_any {S:Nat→Prop} {w:World} {mb fr:Nat} {b:By} (h:MemAt w S mb b fr) (f:Nat) (hf:f<fr):Calls Tryz.prog 160 #[.pointer (some ⟨mb,0,none⟩),.int .i64 f] w (RetW (.int .i64 0) fun w'=>w'=w):=by
 obtain ⟨mp,m,h1,h2,h3,h4,h5,h6⟩:=h
 have e1:=h4.cell' (i:=1) (v:=.int .i64 fr) rfl
 have hl:=h4.lt
 have t1:decide ((f:Int)<0)=false:=decide_eq_false (by omega)
 have t2:decide ((fr:Int)≤f)=false:=decide_eq_false (by omega)
 have t3:decide (fr≤f)=false:=decide_eq_false (by omega)
 clear h1 h2 h3 h4 h5 h6;go_enter Tryz.func160,Tryz.ntmps160;go_wp2_with fail;go_ret;exact ⟨rfl,rfl⟩
def padF (d:By) (n:Nat):By:=fun i=>if i<n then d i else 0
theorem padF_ok {d:By} (h:ByOk d) {n:Nat} : ByOk (padF d n):=fun i=>by
 unfold padF
 split
 ·exact h i
 ·omega
theorem lay_pg (b:By) (f:Nat) (d:By):∀i,i<4096→pgF (layPg b f d) f i=d i:=fun i hi=>by
 unfold pgF layPg
 rw [if_pos (by omega),show (4096*f+i)%4096=i by omega]
theorem lay_pg_ne (b:By) (d:By) {f k:Nat} (h:k≠f):∀i,i<4096→pgF (layPg b f d) k i=pgF b k i:=fun i hi=>by
 unfold pgF layPg
 rw [if_neg (by omega)]
theorem PgsAt.lay {w w':World} {S:Nat→Prop} {m:List (Int×Nat)} {b:By} (h:PgsAt w S m b) {f g:Nat} {d:By} (hg:((f:Int),g)∈m) (c:Chg (· = g) w w') (hb:Blk w' g (bcells d 4096).toArray 286) (hd:ByOk d) :
  PgsAt w' S m (layPg b f d):=by
 refine ⟨fun p hp=>?_,h.inj,h.key,fun k hk i hi=>?_,fun a=>?_⟩
 ·obtain ⟨h1,h2,h3⟩:=h.blk p hp
  refine ⟨h1,h2,?_⟩
  by_cases e:p.2=g
  ·have e1:p.1=(f:Int):=h.inj p hp _ hg e
   rw [e,e1,show ((f:Int)).toNat=f by omega,bcells_congr (lay_pg b f d)]
   exact hb
  ·have hne:p.1.toNat≠f:=fun e2=>e (h.key p hp _ hg (by show p.1=(f:Int);omega))
   rw [bcells_congr (lay_pg_ne b d hne)]
   exact c.blk h3 e
 ·have hne:k≠f:=fun e=>look_none hk _ hg (by rw [e])
  have:=lay_pg_ne b d hne i hi
  have h0:=h.no k hk i hi
  unfold pgF at this
  rw [this,h0]
 ·unfold layPg
  split
  ·exact hd _
  ·exact h.ok _
theorem setRow_chg (w:World) (g:Nat) (cs:Array Value):Chg (· = g) w (w.setRow g cs):=⟨rfl,rfl,rfl,by simp [World.setRow],fun k hk hn=>setRow_other w g k cs hn⟩
theorem setRow_blk {w:World} {g:Nat} {old cs:Array Value} {T:TypeId} (h:Blk w g old T):Blk (w.setRow g cs) g cs T:=by
 unfold Blk World.setRow at *
 rw [Array.getElem?_modify,if_pos rfl,h]
 rfl
theorem PGs (d:By):(Tryz.prog.info? 286).map (·.size)=some (bcells d 4096).toArray.size:=by
 rw [List.size_toArray,bcells_len]
 kernel_rfl
theorem setPage_any {S Sd:Nat→Prop} {w:World} {mb fr:Nat} {b:By} (h:MemAt w S mb b fr) (f:Nat) (hf:f<fr) (v:Value) (n:Nat) (d:By) (hd:ByOk d) (hs:Sl w Sd 1 v n (bcells d n)) (hn:n≤4096) :
  Calls Tryz.prog 121 #[.pointer (some ⟨mb,0,none⟩),.int .i64 f,v] w (RetW (.int .i64 0) fun w'=>MemAt w' (Grow S w) mb (layPg b f (padF d n)) fr∧Chg S w w'):=by
 have H0:=Lib.hid (frame_any h f hf)
 have t1:decide ((4096:Int)<n)=false:=decide_eq_false (by omega)
 have t2:decide (4096<n)=false:=decide_eq_false (by omega)
 have Hh:=Lib.hid h
 obtain ⟨hsl,p,cap,rfl,hcap,hsp⟩:=hs
 clear h;go_enter Tryz.func121,Tryz.ntmps121;go_wp2_with fail;with_reducible refine H0.out.mono ?_
 rintro e w1 ⟨rfl,hw1⟩;subst hw1;go_upto_region 7 with fail;have hb0:Blk (w1.alloc (.cells Tryz.zeroCells286 286)) w1.heap.size (bcells (fun _=>0) 4096).toArray 286:=by
  rw [←zeroPage]
  exact Blk.new w1 _ _
 have ha0:=(Chg.refl NoB w1).alloc (.cells Tryz.zeroCells286 286)
 have hn64:(n:Int)≤9223372036854775807:=by omega
 go_cut [18,19,20] (fun a b c wx=>Blk wx w1.heap.size (bcells (padF d n) 4096).toArray 286∧Chg NoB w1 wx)
 case first=>
  by_cases h0:n=0
  ·subst h0;have HB:Hid (Blk (w1.alloc (.cells Tryz.zeroCells286 286)) w1.heap.size (bcells (padF d 0) 4096).toArray 286):=Lib.hid (by
    rw [show padF d 0=fun _=>0 from funext fun i=>by unfold padF;rw [if_neg (by omega)]]
    exact hb0)
   have HA:=Lib.hid ha0
   have hcp:=run_copy_none (P:=Tryz.prog) (w1.alloc (.cells Tryz.zeroCells286 286)) 46 46 3 5 (some ⟨w1.heap.size,0,none⟩) p 4096 4096 0 cap Tryz.underlying46 (by kernel_rfl) (by simp)
   clear hb0 ha0 hsp;go_wp2_with fail;go_meet
   exact ⟨HB.out,HA.out⟩
  ·obtain ⟨g,off,rfl,-,hg,hc⟩:=hsp (by omega)
   have hsrc:∀j v,(bcells d n)[j]? = some v→(w1.alloc (.cells Tryz.zeroCells286 286)).cell? ((⟨g,off,none⟩:Addr).add j)=some v:=fun j v hv=>by
    rw [Addr.add_lit]
    exact ha0.cell (hc j v hv) id
   have hone:∀v∈bcells d n,v.oneCell'=true:=by unfold bcells;simp [Value.oneCell']
   have HR:Hid (((bcells (fun _=>0) 4096).toArray.toList.take 0 ++ (bcells d n ++ (bcells (fun _=>0) 4096).toArray.toList.drop (0+(bcells d n).length)))=bcells (padF d n) 4096):=Lib.hid (by
    simp only [List.take_zero,List.nil_append,bcells_len,Nat.zero_add]
    apply List.ext_getElem?
    intro j;by_cases hj:j<n
    ·rw [List.getElem?_append_left (by rw [bcells_len];exact hj),bcells_get hj,bcells_get (by omega)]
     unfold padF
     rw [if_pos hj]
    ·rw [List.getElem?_append_right (by rw [bcells_len];omega),bcells_len,List.getElem?_drop,show n+(j - n)=j by omega]
     by_cases hj2:j<4096
     ·rw [bcells_get hj2,bcells_get hj2]
      unfold padF
      rw [if_neg hj]
     ·rw [List.getElem?_eq_none (by rw [bcells_len];omega),List.getElem?_eq_none (by rw [bcells_len];omega)])
   have HB0:=Lib.hid hb0
   have HA:=Lib.hid ha0
   have hsl':(bcells d n).length=Nat.min n 4096:=by rw [bcells_len];exact (Nat.min_eq_left hn).symm
   have hfit:0+(bcells d n).length≤(bcells (fun _=>0) 4096).toArray.size:=by rw [bcells_len,List.size_toArray,bcells_len];omega
   obtain ⟨Cs,hCs⟩:∃Cs,bcells d n=Cs:=⟨_,rfl⟩
   obtain ⟨Z,hZ⟩:∃Z,(bcells (fun _=>0) 4096).toArray=Z:=⟨_,rfl⟩
   rw [hCs] at hsrc hone HR hsl' hfit
   rw [hZ] at HR HB0 hfit
   have hcp:=run_copy_row (P:=Tryz.prog) (w1.alloc (.cells Tryz.zeroCells286 286)) 46 46 3 5 w1.heap.size 0 4096 4096 ⟨g,off,none⟩ n cap Z 286 Cs Tryz.underlying46 (by kernel_rfl) HB0.out hsl' hsrc hfit hone
   rw [List.append_assoc,HR.out] at hcp
   clear hb0 ha0 hsp hc hsl hCs hZ;have HX:=Lib.hid (setRow_blk (cs:=(bcells (padF d n) 4096).toArray) HB0.out)
   have HC:Hid (Chg NoB w1 ((w1.alloc (.cells Tryz.zeroCells286 286)).setRow w1.heap.size (bcells (padF d n) 4096).toArray)):=Lib.hid (HA.out.trans (setRow_chg _ _ _) fun k hk e=>by
    have:k=w1.heap.size:=e
    omega)
   clear hsrc hone hfit hsl';go_wp2_with fail;go_meet
   exact ⟨HX.out,HC.out⟩
 case rest=>
  obtain ⟨hbl,hch⟩:=hcut
  have HCD:Hid (Chg NoB w1 wc.drew):=Lib.hid hch.drew
  have HBD:Hid (Blk wc.drew w1.heap.size (bcells (padF d n) 4096).toArray 286):=Lib.hid hbl.drew
  have HO:=Lib.hid fun w' (c:Chg NoB w1 w')=>own_any ((Hh.out.mono (S':=fun k=>S k∧k<w1.heap.size) fun k hk hs=>⟨hs,hk⟩).chg0 c) f
  clear hbl hch;go_upto_region 8 with fail;refine wp_region_all 4 2 [0,1] (fun _=>True) (by kernel_rfl) (by kernel_rfl) (fun _ _ _ _ _ h=>h) (trivial) ?_
  simp only [pickOps_nil,pickOps_cons,Option.getD_some,List.getElem?_toArray,List.getElem?_cons_zero,List.getElem?_cons_succ,List.cons_append,List.nil_append,List.drop_succ_cons,List.drop_zero]
  repeat
   refine wpTake_cons' rfl ?_
   apply Exists.intro;refine ⟨fun wS hS=>?_,?_⟩
   ·try dsimp only at hS
    obtain _:=hS
    go_simp;try rfl
   simp only [Act.put,List.setIfInBounds_toArray,List.set_cons_zero,List.set_cons_succ]
  refine wpTake_nil ?_
  refine wpAll_cons [2,3] (by kernel_rfl) ?_
  intro i hi;simp only [List.mem_cons,List.not_mem_nil,or_false] at hi
  rcases hi with rfl | rfl
  ·
   refine ⟨_,rfl,rfl,fun K hK=>?_⟩
   go_simp;with_reducible refine (HO.out _ HCD.out).mono ?_
   rintro e w9 ⟨g,rfl,mp,m,h1,h2,h3,h4,h5,h6,hg,C9⟩;refine hK _ _ trivial ?_
   have HB9:=Lib.hid (C9.blk HBD.out (fun h=>Nat.lt_irrefl _ h.2))
   clear hK K;try simp only [Act.put,List.setIfInBounds_toArray,List.set_cons_zero,List.set_cons_succ]
   refine wpAll_cons [3] (by kernel_rfl) ?_
   intro i hi;simp only [List.mem_cons,List.not_mem_nil,or_false] at hi
   subst hi;refine ⟨_,rfl,rfl,fun K hK=>?_⟩
   refine wp_load_row 286 _ (by rfl) _ (by rfl) _ _ _ _ (HB9).out Tryz.underlying286 rfl (PGs _) ?_
   refine hK _ _ trivial ?_
   clear hK K;try simp only [Act.put,List.setIfInBounds_toArray,List.set_cons_zero,List.set_cons_succ]
   refine wpAll_nil ?_
   obtain ⟨g1,g2,g3⟩:=h6.blk _ hg
   refine wpList_plain rfl fun K hK=>?_
   go_simp;refine hK _ _ ?_
   clear hK K;try simp only [Act.put,List.setIfInBounds_toArray,List.set_cons_zero,List.set_cons_succ]
   refine wpList_plain rfl fun K hK=>?_
   refine wp_store_row 286 _ _ (by rfl) g (bcells (padF d n) 4096).toArray (by rfl) (by rfl) _ _ g3 (PGs _) (by rw [List.size_toArray,List.size_toArray,bcells_len,bcells_len]) (by unfold bcells;simp [Value.oneCell']) ?_
   refine hK _ _ ?_
   clear hK K;have HR:Hid (MemAt (w9.setRow g (bcells (padF d n) 4096).toArray) (Grow S w1) mb (layPg b f (padF d n)) fr∧Chg S w1 (w9.setRow g (bcells (padF d n) 4096).toArray)):=Lib.hid (by
    have CR:=setRow_chg w9 g (bcells (padF d n) 4096).toArray
    have hsz:=HCD.out.size
    have hgr:∀k,Grow (fun k=>S k∧k<w1.heap.size) wc.drew k→Grow S w1 k:=fun k hk=>by
     rcases hk with hk | hk
     ·exact .inl hk.1
     ·exact .inr (by omega)
    have hP:=h6.lay hg CR (setRow_blk g3) (padF_ok hd)
    refine ⟨⟨mp,m,hgr _ h1,hgr _ h2,h3,CR.blk h4 (fun e=>g1.2.1 e.symm),h5.chg CR (fun e=>g1.2.2 e.symm),hP.mono fun k _ h=>⟨hgr k h.1,h.2⟩⟩,?_⟩
    refine ((HCD.out.mono (S':=S) fun _ _ h=>h.elim).trans C9 fun k _ h=>h.1).trans CR fun k hk e=>?_
    have e:k=g:=e
    rw [e]
    rcases g1.1 with h | h
    ·exact h.1
    ·have h:wc.drew.heap.size≤g:=h
     omega)
   clear h1 h2 h3 h4 h5 h6 hg g1 g2 g3 C9 HB9;generalize w9.setRow g (bcells (padF d n) 4096).toArray=wz at *;go_wp2_with fail;go_ret;exact ⟨rfl,HR.out⟩
  ·
   refine ⟨_,rfl,rfl,fun K hK=>?_⟩
   refine wp_load_row 286 _ (by rfl) _ (by rfl) _ _ _ _ (HBD).out Tryz.underlying286 rfl (PGs _) ?_
   refine hK _ _ trivial ?_
   clear hK K;try simp only [Act.put,List.setIfInBounds_toArray,List.set_cons_zero,List.set_cons_succ]
   refine wpAll_cons [2] (by kernel_rfl) ?_
   intro i hi;simp only [List.mem_cons,List.not_mem_nil,or_false] at hi
   subst hi;refine ⟨_,rfl,rfl,fun K hK=>?_⟩
   go_simp;with_reducible refine (HO.out _ HCD.out).mono ?_
   rintro e w9 ⟨g,rfl,mp,m,h1,h2,h3,h4,h5,h6,hg,C9⟩;refine hK _ _ trivial ?_
   have HB9:=Lib.hid (C9.blk HBD.out (fun h=>Nat.lt_irrefl _ h.2))
   clear hK K;try simp only [Act.put,List.setIfInBounds_toArray,List.set_cons_zero,List.set_cons_succ]
   refine wpAll_nil ?_
   obtain ⟨g1,g2,g3⟩:=h6.blk _ hg
   refine wpList_plain rfl fun K hK=>?_
   go_simp;refine hK _ _ ?_
   clear hK K;try simp only [Act.put,List.setIfInBounds_toArray,List.set_cons_zero,List.set_cons_succ]
   refine wpList_plain rfl fun K hK=>?_
   refine wp_store_row 286 _ _ (by rfl) g (bcells (padF d n) 4096).toArray (by rfl) (by rfl) _ _ g3 (PGs _) (by rw [List.size_toArray,List.size_toArray,bcells_len,bcells_len]) (by unfold bcells;simp [Value.oneCell']) ?_
   refine hK _ _ ?_
   clear hK K;have HR:Hid (MemAt (w9.setRow g (bcells (padF d n) 4096).toArray) (Grow S w1) mb (layPg b f (padF d n)) fr∧Chg S w1 (w9.setRow g (bcells (padF d n) 4096).toArray)):=Lib.hid (by
    have CR:=setRow_chg w9 g (bcells (padF d n) 4096).toArray
    have hsz:=HCD.out.size
    have hgr:∀k,Grow (fun k=>S k∧k<w1.heap.size) wc.drew k→Grow S w1 k:=fun k hk=>by
     rcases hk with hk | hk
     ·exact .inl hk.1
     ·exact .inr (by omega)
    have hP:=h6.lay hg CR (setRow_blk g3) (padF_ok hd)
    refine ⟨⟨mp,m,hgr _ h1,hgr _ h2,h3,CR.blk h4 (fun e=>g1.2.1 e.symm),h5.chg CR (fun e=>g1.2.2 e.symm),hP.mono fun k _ h=>⟨hgr k h.1,h.2⟩⟩,?_⟩
    refine ((HCD.out.mono (S':=S) fun _ _ h=>h.elim).trans C9 fun k _ h=>h.1).trans CR fun k hk e=>?_
    have e:k=g:=e
    rw [e]
    rcases g1.1 with h | h
    ·exact h.1
    ·have h:wc.drew.heap.size≤g:=h
     omega)
   clear h1 h2 h3 h4 h5 h6 hg g1 g2 g3 C9 HB9;generalize w9.setRow g (bcells (padF d n) 4096).toArray=wz at *;go_wp2_with fail;go_ret;exact ⟨rfl,HR.out⟩
theorem pteLeaf_any (p:Pte) (w:World):Calls Tryz.prog 163 #[.agg #[.bool p.v,.bool p.r,.bool p.w,.bool p.x,.bool p.u,.bool p.g,.bool p.a,.bool p.d,.int .i64 p.rsw,.int .u64 p.ppn]] w (RetW (.bool (leafB p)) fun w'=>Chg NoB w w'):=by
 obtain ⟨v,r,pw,x,u,g,a,d,rsw,ppn⟩:=p
 have HC:=Lib.hid ((Chg.refl NoB w).alloc (.cells #[.bool v,.bool r,.bool pw,.bool x,.bool u,.bool g,.bool a,.bool d,.int .i64 rsw,.int .u64 ppn] 233))
 cases r
 all_goals
  go_enter Tryz.func163,Tryz.ntmps163;go_wp2_with fail;go_ret;exact ⟨rfl,HC.out⟩
theorem pteRight_any (p:Pte) (w:World):Calls Tryz.prog 162 #[.agg #[.bool p.v,.bool p.r,.bool p.w,.bool p.x,.bool p.u,.bool p.g,.bool p.a,.bool p.d,.int .i64 p.rsw,.int .u64 p.ppn]] w (RetW (.bool (rightP8 p)) fun w'=>Chg NoB w w'):=by
 obtain ⟨v,r,pw,x,u,g,a,d,rsw,ppn⟩:=p
 have HC:=Lib.hid ((Chg.refl NoB w).alloc (.cells #[.bool v,.bool r,.bool pw,.bool x,.bool u,.bool g,.bool a,.bool d,.int .i64 rsw,.int .u64 ppn] 233))
 cases v
 all_goals
  cases r
  all_goals
   cases pw
   all_goals
    go_enter Tryz.func162,Tryz.ntmps162;go_wp2_with fail;go_ret;exact ⟨rfl,HC.out⟩
def levelB (n:Int):Bool:=decide (0≤n) && decide (n<3)
theorem level_cases (n:Int):n=0∨n=1∨n=2∨levelB n=false:=by
 by_cases h1:0≤n
 ·by_cases h2:n<3
  ·omega
  ·exact .inr (.inr (.inr (by unfold levelB;rw [decide_eq_false h2,Bool.and_false])))
 ·exact .inr (.inr (.inr (by unfold levelB;rw [decide_eq_false h1,Bool.false_and])))
theorem level_any (n:Int) (w:World):Calls Tryz.prog 192 #[.int .i64 n] w (RetW (.bool (levelB n)) fun w'=>w'=w):=by
 by_cases h1:0≤n
 ·by_cases h2:n<3
  ·have t1:decide (0≤n)=true:=decide_eq_true h1
   have t2:decide (n<3)=true:=decide_eq_true h2
   have HT:Hid (levelB n=true):=Lib.hid (by unfold levelB;rw [t1,t2];rfl)
   clear h1 h2;go_enter Tryz.func192,Tryz.ntmps192;go_wp2_with fail;go_ret;exact ⟨ret_bool HT.out.symm,rfl⟩
  ·have t1:decide (0≤n)=true:=decide_eq_true h1
   have t2:decide (n<3)=false:=decide_eq_false h2
   have HT:Hid (levelB n=false):=Lib.hid (by unfold levelB;rw [t1,t2];rfl)
   clear h1 h2;go_enter Tryz.func192,Tryz.ntmps192;go_wp2_with fail;go_ret;exact ⟨ret_bool HT.out.symm,rfl⟩
 ·have t1:decide (0≤n)=false:=decide_eq_false h1
  have HT:Hid (levelB n=false):=Lib.hid (by unfold levelB;rw [t1];rfl)
  clear h1;go_enter Tryz.func192,Tryz.ntmps192;go_wp2_with fail;go_ret;exact ⟨ret_bool HT.out.symm,rfl⟩
theorem and_lo (k:Nat) (hk:k≤64) (x:Int) (h0:0≤x) (h1:x<18446744073709551616):bits .and .u64 x (2 ^ k - 1)=x%2 ^ k:=
 bits_mask .u64 64 (by decide) (fun m h0 h1=>by rw [IntKind.wrap_u64];omega) k hk x h0 (by simpa using h1)
theorem index_any (va:Nat) (l:Int) (w:World) (hv:va<18446744073709551616) (hl:levelB l=true):Calls Tryz.prog 164 #[.int .u64 va,.int .i64 l] w (RetW (.int .i64 (idx va l.toNat)) fun w'=>w'=w):=by
 rcases level_cases l with rfl | rfl | rfl | h
 ·have H0:=Lib.hid (level_any 0 w)
  rw [show levelB 0=true from rfl] at H0
  have m1:bits .and .u64 ((va:Int) / 4096) 511=(va:Int) / 4096%512:=by have:=and_lo 9 (by omega) ((va:Int) / 4096) (by omega) (by omega);simpa using this
  have e2:((va / 4096%512:Nat):Int)=(va:Int) / 4096%512:=by omega
  have HV:Hid (((idx va (0:Int).toNat:Nat):Int)=(va:Int) / 4096%512):=Lib.hid e2
  go_enter Tryz.func164,Tryz.ntmps164;go_wp2_with fail;with_reducible refine H0.out.mono ?_
  rintro e w1 ⟨rfl,hw1⟩;subst hw1;go_wp2_with fail;go_ret;exact ⟨by rw [HV.out];rfl,rfl⟩
 ·have H0:=Lib.hid (level_any 1 w)
  rw [show levelB 1=true from rfl] at H0
  have m1:bits .and .u64 ((va:Int) / 2097152) 511=(va:Int) / 2097152%512:=by have:=and_lo 9 (by omega) ((va:Int) / 2097152) (by omega) (by omega);simpa using this
  have e2:((va / 2097152%512:Nat):Int)=(va:Int) / 2097152%512:=by omega
  have HV:Hid (((idx va (1:Int).toNat:Nat):Int)=(va:Int) / 2097152%512):=Lib.hid e2
  go_enter Tryz.func164,Tryz.ntmps164;go_wp2_with fail;with_reducible refine H0.out.mono ?_
  rintro e w1 ⟨rfl,hw1⟩;subst hw1;go_wp2_with fail;go_ret;exact ⟨by rw [HV.out];rfl,rfl⟩
 ·have H0:=Lib.hid (level_any 2 w)
  rw [show levelB 2=true from rfl] at H0
  have m1:bits .and .u64 ((va:Int) / 1073741824) 511=(va:Int) / 1073741824%512:=by have:=and_lo 9 (by omega) ((va:Int) / 1073741824) (by omega) (by omega);simpa using this
  have e2:((va / 1073741824%512:Nat):Int)=(va:Int) / 1073741824%512:=by omega
  have HV:Hid (((idx va (2:Int).toNat:Nat):Int)=(va:Int) / 1073741824%512):=Lib.hid e2
  go_enter Tryz.func164,Tryz.ntmps164;go_wp2_with fail;with_reducible refine H0.out.mono ?_
  rintro e w1 ⟨rfl,hw1⟩;subst hw1;go_wp2_with fail;go_ret;exact ⟨by rw [HV.out];rfl,rfl⟩
 ·rw [hl] at h;cases h
theorem vpn_any (va:Nat) (w:World) (hv:va<18446744073709551616):Calls Tryz.prog 318 #[.int .u64 va] w (RetW (.int .u64 (vpn va)) fun w'=>w'=w):=by
 have m1:bits .and .u64 ((va:Int) / 4096) 134217727=(va:Int) / 4096%134217728:=by have:=and_lo 27 (by omega) ((va:Int) / 4096) (by omega) (by omega);simpa using this
 have e2:((va / 4096%134217728:Nat):Int)=(va:Int) / 4096%134217728:=by omega
 have HV:Hid ((vpn va:Int)=(va:Int) / 4096%134217728):=Lib.hid e2
 go_enter Tryz.func318,Tryz.ntmps318;go_wp2_with fail;go_ret;exact ⟨by rw [HV.out];rfl,rfl⟩
theorem canon_eq (va:Nat) (hv:va<18446744073709551616):(IntKind.u64.wrap (wrap64 (wrap64 (va:Int)*33554432) / 33554432) == (va:Int))=canonB va:=by
 unfold canonB wrap64
 rw [IntKind.wrap_u64,Bool.eq_iff_iff,beq_iff_eq,Bool.or_eq_true,decide_eq_true_iff,decide_eq_true_iff]
 omega
theorem canon_any (va:Nat) (w:World) (hv:va<18446744073709551616):Calls Tryz.prog 123 #[.int .u64 va] w (RetW (.bool (canonB va)) fun w'=>w'=w):=by
 have HV:=Lib.hid (canon_eq va hv)
 go_enter Tryz.func123,Tryz.ntmps123;go_wp2_with fail;go_ret;exact ⟨ret_bool HV.out,rfl⟩
theorem span_any (l:Int) (w:World) (hl:levelB l=true):Calls Tryz.prog 312 #[.int .i64 l] w (RetW (.int .u64 ((2 ^ (12+9*l.toNat):Nat):Int)) fun w'=>w'=w):=by
 rcases level_cases l with rfl | rfl | rfl | h
 ·have H0:=Lib.hid (level_any 0 w)
  rw [show levelB 0=true from rfl] at H0
  go_enter Tryz.func312,Tryz.ntmps312;go_wp2_with fail;with_reducible refine H0.out.mono ?_
  rintro e w1 ⟨rfl,hw1⟩;subst hw1;go_wp2_with fail;go_ret;exact ⟨rfl,rfl⟩
 ·have H0:=Lib.hid (level_any 1 w)
  rw [show levelB 1=true from rfl] at H0
  go_enter Tryz.func312,Tryz.ntmps312;go_wp2_with fail;with_reducible refine H0.out.mono ?_
  rintro e w1 ⟨rfl,hw1⟩;subst hw1;go_wp2_with fail;go_ret;exact ⟨rfl,rfl⟩
 ·have H0:=Lib.hid (level_any 2 w)
  rw [show levelB 2=true from rfl] at H0
  go_enter Tryz.func312,Tryz.ntmps312;go_wp2_with fail;with_reducible refine H0.out.mono ?_
  rintro e w1 ⟨rfl,hw1⟩;subst hw1;go_wp2_with fail;go_ret;exact ⟨rfl,rfl⟩
 ·rw [hl] at h;cases h
theorem join_any (ppn va:Nat) (l:Int) (w:World) (hp:ppn<17592186044416) (hv:va<18446744073709551616) (hl:levelB l=true):Calls Tryz.prog 291 #[.int .u64 ppn,.int .u64 va,.int .i64 l] w (RetW (.int .u64 (joinF ppn va l.toNat)) fun w'=>w'=w):=by
 rcases level_cases l with rfl | rfl | rfl | h
 ·have H0:=Lib.hid (level_any 0 w)
  have H1:Hid (Calls Tryz.prog 312 #[.int .i64 0] w (RetW (.int .u64 4096) fun w'=>w'=w)):=Lib.hid (span_any 0 w rfl)
  rw [show levelB 0=true from rfl] at H0
  have HV:Hid (((joinF ppn va (0:Int).toNat:Nat):Int)=((ppn*4096 / 4096*4096+va%4096:Nat):Int)):=Lib.hid (by
   have:joinF ppn va (0:Int).toNat=ppn*4096%18446744073709551616 / 4096*4096+va%4096:=rfl
   rw [this,Nat.mod_eq_of_lt (show ppn*4096<18446744073709551616 by omega)])
  have m1:bits .andNot .u64 ((ppn:Int)*4096) 4095=((ppn*4096 / 4096*4096:Nat):Int):=by
   have:=u64_andNot_nat (ppn*4096) 4095 (by omega) (by omega)
   rw [show (18446744073709551615 - 4095:Nat)=18446744073709547520 from rfl,nat_hi64_12,Nat.mod_eq_of_lt (show ppn*4096<18446744073709551616 by omega)] at this
   rw [←this]
   congr 1
  have m2:bits .and .u64 (va:Int) 4095=((va%4096:Nat):Int):=by have:=and_lo 12 (by omega) (va:Int) (by omega) (by omega);simpa using this
  obtain ⟨X,hX⟩:∃X,ppn*4096 / 4096*4096=X:=⟨_,rfl⟩
  obtain ⟨Y,hY⟩:∃Y,va%4096=Y:=⟨_,rfl⟩
  have m3:bits .or .u64 (X:Int) (Y:Int)=((X+Y:Nat):Int):=by
   rw [u64_or_nat X Y (by omega) (by omega),nat_join 12 X Y (by rw [←hX];simp) (by rw [←hY];simp;omega)]
  rw [hX] at m1 HV
  rw [hY] at m2 HV
  clear hX hY;go_enter Tryz.func291,Tryz.ntmps291;go_wp2_with fail;with_reducible refine H0.out.mono ?_
  rintro e w1 ⟨rfl,hw1⟩;subst hw1;go_wp2_with fail;with_reducible refine H1.out.mono ?_
  rintro e w1 ⟨rfl,hw1⟩;subst hw1;go_wp2_with fail;go_ret;exact ⟨by rw [HV.out];rfl,rfl⟩
 ·have H0:=Lib.hid (level_any 1 w)
  have H1:Hid (Calls Tryz.prog 312 #[.int .i64 1] w (RetW (.int .u64 2097152) fun w'=>w'=w)):=Lib.hid (span_any 1 w rfl)
  rw [show levelB 1=true from rfl] at H0
  have HV:Hid (((joinF ppn va (1:Int).toNat:Nat):Int)=((ppn*4096 / 2097152*2097152+va%2097152:Nat):Int)):=Lib.hid (by
   have:joinF ppn va (1:Int).toNat=ppn*4096%18446744073709551616 / 2097152*2097152+va%2097152:=rfl
   rw [this,Nat.mod_eq_of_lt (show ppn*4096<18446744073709551616 by omega)])
  have m1:bits .andNot .u64 ((ppn:Int)*4096) 2097151=((ppn*4096 / 2097152*2097152:Nat):Int):=by
   have:=u64_andNot_nat (ppn*4096) 2097151 (by omega) (by omega)
   rw [show (18446744073709551615 - 2097151:Nat)=18446744073707454464 from rfl,nat_hi64_21,Nat.mod_eq_of_lt (show ppn*4096<18446744073709551616 by omega)] at this
   rw [←this]
   congr 1
  have m2:bits .and .u64 (va:Int) 2097151=((va%2097152:Nat):Int):=by have:=and_lo 21 (by omega) (va:Int) (by omega) (by omega);simpa using this
  obtain ⟨X,hX⟩:∃X,ppn*4096 / 2097152*2097152=X:=⟨_,rfl⟩
  obtain ⟨Y,hY⟩:∃Y,va%2097152=Y:=⟨_,rfl⟩
  have m3:bits .or .u64 (X:Int) (Y:Int)=((X+Y:Nat):Int):=by
   rw [u64_or_nat X Y (by omega) (by omega),nat_join 21 X Y (by rw [←hX];simp) (by rw [←hY];simp;omega)]
  rw [hX] at m1 HV
  rw [hY] at m2 HV
  clear hX hY;go_enter Tryz.func291,Tryz.ntmps291;go_wp2_with fail;with_reducible refine H0.out.mono ?_
  rintro e w1 ⟨rfl,hw1⟩;subst hw1;go_wp2_with fail;with_reducible refine H1.out.mono ?_
  rintro e w1 ⟨rfl,hw1⟩;subst hw1;go_wp2_with fail;go_ret;exact ⟨by rw [HV.out];rfl,rfl⟩
 ·have H0:=Lib.hid (level_any 2 w)
  have H1:Hid (Calls Tryz.prog 312 #[.int .i64 2] w (RetW (.int .u64 1073741824) fun w'=>w'=w)):=Lib.hid (span_any 2 w rfl)
  rw [show levelB 2=true from rfl] at H0
  have HV:Hid (((joinF ppn va (2:Int).toNat:Nat):Int)=((ppn*4096 / 1073741824*1073741824+va%1073741824:Nat):Int)):=Lib.hid (by
   have:joinF ppn va (2:Int).toNat=ppn*4096%18446744073709551616 / 1073741824*1073741824+va%1073741824:=rfl
   rw [this,Nat.mod_eq_of_lt (show ppn*4096<18446744073709551616 by omega)])
  have m1:bits .andNot .u64 ((ppn:Int)*4096) 1073741823=((ppn*4096 / 1073741824*1073741824:Nat):Int):=by
   have:=u64_andNot_nat (ppn*4096) 1073741823 (by omega) (by omega)
   rw [show (18446744073709551615 - 1073741823:Nat)=18446744072635809792 from rfl,nat_hi64_30,Nat.mod_eq_of_lt (show ppn*4096<18446744073709551616 by omega)] at this
   rw [←this]
   congr 1
  have m2:bits .and .u64 (va:Int) 1073741823=((va%1073741824:Nat):Int):=by have:=and_lo 30 (by omega) (va:Int) (by omega) (by omega);simpa using this
  obtain ⟨X,hX⟩:∃X,ppn*4096 / 1073741824*1073741824=X:=⟨_,rfl⟩
  obtain ⟨Y,hY⟩:∃Y,va%1073741824=Y:=⟨_,rfl⟩
  have m3:bits .or .u64 (X:Int) (Y:Int)=((X+Y:Nat):Int):=by
   rw [u64_or_nat X Y (by omega) (by omega),nat_join 30 X Y (by rw [←hX];simp) (by rw [←hY];simp;omega)]
  rw [hX] at m1 HV
  rw [hY] at m2 HV
  clear hX hY;go_enter Tryz.func291,Tryz.ntmps291;go_wp2_with fail;with_reducible refine H0.out.mono ?_
  rintro e w1 ⟨rfl,hw1⟩;subst hw1;go_wp2_with fail;with_reducible refine H1.out.mono ?_
  rintro e w1 ⟨rfl,hw1⟩;subst hw1;go_wp2_with fail;go_ret;exact ⟨by rw [HV.out];rfl,rfl⟩
 ·rw [hl] at h;cases h
end Go.Proofs.YtjhnnjgnkkjmkaaGreatDoor
