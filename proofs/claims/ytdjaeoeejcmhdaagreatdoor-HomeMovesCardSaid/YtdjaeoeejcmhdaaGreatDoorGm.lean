/- Walks through the tables: an address's entry. No condition. -/
import Derived.Test.YtdjaeoeejcmhdaaGreatDoorGk
import Derived.ScopeJumps
import Derived.WalkMore
set_option linter.unusedVariables false
set_option linter.unusedSimpArgs false
namespace Go.Proofs.YtdjaeoeejcmhdaaGreatDoor
open Go.RowKit Go.RR
set_option maxRecDepth 100000 in
theorem place_any (l : Leaf) (va : Nat) (w : World) (hp : l.p.ppn < 17592186044416) (hv : va < 18446744073709551616) (hl : levelB l.level = true) :
    Calls Tryz.prog 58 #[.agg #[.bool l.p.v, .bool l.p.r, .bool l.p.w, .bool l.p.x, .bool l.p.u, .bool l.p.g, .bool l.p.a, .bool l.p.d, .int .i64 l.p.rsw, .int .u64 l.p.ppn, .int .i64 l.level, .int .u64 l.pos], .int .u64 va] w (RetW (.int .u64 (joinF l.p.ppn va l.level.toNat)) fun w' => Chg NoB w w') := by
  obtain ⟨⟨v, r, pw, x, u, g, a, d, rsw, ppn⟩, lv, pos⟩ := l
  have H0 := Lib.hid fun w' => join_any ppn va lv w' hp hv hl
  clear hp hv hl
  go_enter Tryz.func58, Tryz.ntmps58
  go_wp2_with fail
  with_reducible refine (H0.out _).mono ?_
  rintro e w1 ⟨rfl, hw1⟩
  subst hw1
  go_wp2_with fail
  go_ret
  exact ⟨rfl, (Chg.refl _ _).alloc _⟩
def Leaf.out (l : Leaf) : Value := .agg #[.bool l.p.v, .bool l.p.r, .bool l.p.w, .bool l.p.x, .bool l.p.u, .bool l.p.g, .bool l.p.a, .bool l.p.d, .int .i64 l.p.rsw, .int .u64 l.p.ppn, .int .i64 l.level, .int .u64 l.pos]
theorem set12 {w w' : World} (h : Chg NoB w w') (v0 v1 v2 v3 v4 v5 v6 v7 v8 v9 v10 v11 : Value) : Chg NoB w ((((((((((((w'.setCell ⟨w.heap.size + 1, 0, none⟩ (v0)).setCell ⟨w.heap.size + 1, 1, none⟩ (v1)).setCell ⟨w.heap.size + 1, 2, none⟩ (v2)).setCell ⟨w.heap.size + 1, 3, none⟩ (v3)).setCell ⟨w.heap.size + 1, 4, none⟩ (v4)).setCell ⟨w.heap.size + 1, 5, none⟩ (v5)).setCell ⟨w.heap.size + 1, 6, none⟩ (v6)).setCell ⟨w.heap.size + 1, 7, none⟩ (v7)).setCell ⟨w.heap.size + 1, 8, none⟩ (v8)).setCell ⟨w.heap.size + 1, 9, none⟩ (v9)).setCell ⟨w.heap.size + 1, 10, none⟩ (v10)).setCell ⟨w.heap.size + 1, 11, none⟩ (v11)) := ((((((((((((h.setCell (.inr (Nat.le_succ _)) _).setCell (.inr (Nat.le_succ _)) _).setCell (.inr (Nat.le_succ _)) _).setCell (.inr (Nat.le_succ _)) _).setCell (.inr (Nat.le_succ _)) _).setCell (.inr (Nat.le_succ _)) _).setCell (.inr (Nat.le_succ _)) _).setCell (.inr (Nat.le_succ _)) _).setCell (.inr (Nat.le_succ _)) _).setCell (.inr (Nat.le_succ _)) _).setCell (.inr (Nat.le_succ _)) _).setCell (.inr (Nat.le_succ _)) _)
def slotI : Value → Int
  | .int _ q => q
  | _ => 0
/-- At a jump: what is left of the walk. -/
structure FindJ (w w' : World) (b : By) (fr va root l tab : Nat) : Prop where
  l1 : l ≤ 1
  tb : tab < 17592186044416
  eq : findF b fr root va = walkF b fr va l tab
  chg : Chg NoB w w'
  res : Blk w' (w.heap.size + 1) #[.bool false, .bool false, .bool false, .bool false, .bool false, .bool false, .bool false, .bool false, .int .i64 0, .int .u64 0, .int .i64 0, .int .u64 0] 137
  pt : ∃ p : Pte, Blk w' (w.heap.size + 1 + 1) #[.bool p.v, .bool p.r, .bool p.w, .bool p.x, .bool p.u, .bool p.g, .bool p.a, .bool p.d, .int .i64 p.rsw, .int .u64 p.ppn] 135
/-- The walk behind an entry that leads on. -/
def onF (b : By) (fr va ppn : Nat) : Nat → Leaf × Int
  | 0 => (Leaf.zero, 51)
  | l + 1 => walkF b fr va l ppn
theorem walk_step {b : By} {fr va l tab : Nat} {P : Pte} {ec : Int} (h : entryF b fr (tab * 4096 + 8 * idx va l) = (P, ec)) :
    walkF b fr va l tab = if ec ≠ 0 then (Leaf.zero, ec) else if (leafB P && evenB P.ppn l) = true then (⟨P, l, tab * 4096 + 8 * idx va l⟩, 0) else if (leafB P || !leadsB P l) = true then (Leaf.zero, 51) else onF b fr va P.ppn l := by
  cases l
  all_goals
    conv => lhs; unfold walkF
    simp only [h]
    rfl
theorem entry_ppn (b : By) (fr a : Nat) : (entryF b fr a).1.ppn < 17592186044416 := by
  unfold entryF
  split
  · show (0 : Nat) < _; omega
  · split
    · exact (pteG_ok _).2.2
    · show (0 : Nat) < _; omega
set_option maxHeartbeats 8000000 in
set_option maxRecDepth 100000 in
theorem find_any {S : Nat → Prop} {w : World} {mb fr : Nat} {b : By} (h : MemAt w S mb b fr) (va root : Nat) (asid : Int) (hv : va < 18446744073709551616) (hr : root < 17592186044416) (hf : fr ≤ 1048576) :
    Calls Tryz.prog 99 #[.pointer (some ⟨mb, 0, none⟩), .agg #[.bool true, .int .i64 asid, .int .u64 root], .int .u64 va] w (RetW (.tuple #[(findF b fr root va).1.out, .int .i64 (findF b fr root va).2]) fun w' => Chg NoB w w') := by
  have HM := Lib.hid h
  have HCn := Lib.hid fun w' => canon_any va w' hv
  clear h
  go_enter Tryz.func99, Tryz.ntmps99
  go_wp2_with fail
  refine wp_scope_jumps 0 (fun a' w' => ∃ (l tab : Nat) (u3 u5 u8 u10 u13 u14 u15 u16 u17 u18 u19 u20 u21 u22 u23 u24 u25 u26 u27 u28 u29 u30 u31 u32 u33 u34 u35 u36 u37 u38 u39 u40 u41 u42 u43 u44 u45 u46 u47 u48 u49 u50 u51 u52 u53 u54 u55 u56 u57 u58 u59 u60 u61 u62 u63 u64 u65 u66 u67 u68 u69 u70 u71 u72 u73 u74 : Value), a' = { tmps := #[.pointer (some ⟨mb, 0, none⟩), .agg #[.bool true, .int .i64 asid, .int .u64 root], .int .u64 va, u3, .pointer (some ⟨w.heap.size, 0, none⟩), u5, .pointer (some ⟨w.heap.size + 1, 0, none⟩), .int .i64 0, u8, .pointer (some ⟨w.heap.size + 1 + 1, 0, none⟩), u10, .int .i64 (l : Int), .int .u64 (tab : Int), u13, u14, u15, u16, u17, u18, u19, u20, u21, u22, u23, u24, u25, u26, u27, u28, u29, u30, u31, u32, u33, u34, u35, u36, u37, u38, u39, u40, u41, u42, u43, u44, u45, u46, u47, u48, u49, u50, u51, u52, u53, u54, u55, u56, u57, u58, u59, u60, u61, u62, u63, u64, u65, u66, u67, u68, u69, u70, u71, u72, u73, u74], defers := [] } ∧ FindJ w w' b fr va root l tab) (fun a' _ => (slotI (a'.tmps.getD 11 undef)).toNat) rfl ?_ ?_
  · by_cases hc : canonB va = true
    · rw [hc] at HCn
      have HF : Hid (findF b fr root va = walkF b fr va 2 root) := Lib.hid (if_pos hc)
      clear hc
      go_wp2_with fail
      with_reducible refine (HCn.out _).mono ?_
      rintro e w1 ⟨rfl, hw1⟩
      subst hw1
      go_upto_region 10 with fail
      have HC0 := ((((Chg.refl NoB w).alloc (.cells #[.bool true, .int .i64 asid, .int .u64 root] 87)).alloc (.cells #[.bool false, .bool false, .bool false, .bool false, .bool false, .bool false, .bool false, .bool false, .int .i64 0, .int .u64 0, .int .i64 0, .int .u64 0] 137)).alloc (.cells #[.bool false, .bool false, .bool false, .bool false, .bool false, .bool false, .bool false, .bool false, .int .i64 0, .int .u64 0] 135))
      have HR0 := ((Blk.new (w.alloc (.cells #[.bool true, .int .i64 asid, .int .u64 root] 87)) #[.bool false, .bool false, .bool false, .bool false, .bool false, .bool false, .bool false, .bool false, .int .i64 0, .int .u64 0, .int .i64 0, .int .u64 0] 137).alloc (.cells #[.bool false, .bool false, .bool false, .bool false, .bool false, .bool false, .bool false, .bool false, .int .i64 0, .int .u64 0] 135))
      have HP0 := (Blk.new ((w.alloc (.cells #[.bool true, .int .i64 asid, .int .u64 root] 87)).alloc (.cells #[.bool false, .bool false, .bool false, .bool false, .bool false, .bool false, .bool false, .bool false, .int .i64 0, .int .u64 0, .int .i64 0, .int .u64 0] 137)) #[.bool false, .bool false, .bool false, .bool false, .bool false, .bool false, .bool false, .bool false, .int .i64 0, .int .u64 0] 135)
      rw [show (w.alloc (.cells #[.bool true, .int .i64 asid, .int .u64 root] 87)).heap.size = w.heap.size + 1 by simp] at HR0
      rw [show ((w.alloc (.cells #[.bool true, .int .i64 asid, .int .u64 root] 87)).alloc (.cells #[.bool false, .bool false, .bool false, .bool false, .bool false, .bool false, .bool false, .bool false, .int .i64 0, .int .u64 0, .int .i64 0, .int .u64 0] 137)).heap.size = w.heap.size + 1 + 1 by simp] at HP0
      have hz0 : levelB 2 = true := rfl
      go_quiet (fail)
      have HC := Lib.hid (HC0.drewN nq)
      have HR := Lib.hid (HR0.drewN nq)
      have HPT := Lib.hid (Exists.intro (p := fun p : Pte => Blk _ (w.heap.size + 1 + 1) #[.bool p.v, .bool p.r, .bool p.w, .bool p.x, .bool p.u, .bool p.g, .bool p.a, .bool p.d, .int .i64 p.rsw, .int .u64 p.ppn] 135) Pte.zero (HP0.drewN nq))
      have HLV := Lib.hid hz0
      clear HC0 HR0 HP0 hz0
      generalize ((((w.alloc (.cells #[.bool true, .int .i64 asid, .int .u64 root] 87)).alloc (.cells #[.bool false, .bool false, .bool false, .bool false, .bool false, .bool false, .bool false, .bool false, .int .i64 0, .int .u64 0, .int .i64 0, .int .u64 0] 137)).alloc (.cells #[.bool false, .bool false, .bool false, .bool false, .bool false, .bool false, .bool false, .bool false, .int .i64 0, .int .u64 0] 135)).drewN nq) = wr at *
      go_wp2_with fail
      go_step3
      obtain ⟨ix, hix⟩ : ∃ ix, idx va 2 = ix := ⟨_, rfl⟩
      have hix9 : ix < 512 := by rw [← hix]; exact Nat.mod_lt _ (by omega)
      have HIX : Hid (∀ w', Calls Tryz.prog 138 #[.int .u64 va, .int .i64 2] w' (RetW (.int .i64 ix) fun w'' => w'' = w')) := Lib.hid fun w' => by
        have := index_any va 2 w' hv HLV.out
        rw [show (2 : Int).toNat = 2 by omega, hix] at this
        exact this
      obtain ⟨at', hat⟩ : ∃ at', root * 4096 + 8 * ix = at' := ⟨_, rfl⟩
      have hat64 : at' < 18446744073709551616 := by omega
      have e1 : (root : Int) * 4096 + 8 * (ix : Int) = (at' : Int) := by omega
      obtain ⟨⟨P, ec⟩, hE⟩ : ∃ q, entryF b fr at' = q := ⟨_, rfl⟩
      have HEN : Hid (∀ w', Chg NoB w w' → Calls Tryz.prog 139 #[.pointer (some ⟨mb, 0, none⟩), .int .u64 at'] w' (RetW (.tuple #[.agg #[.bool P.v, .bool P.r, .bool P.w, .bool P.x, .bool P.u, .bool P.g, .bool P.a, .bool P.d, .int .i64 P.rsw, .int .u64 P.ppn], .int .i64 ec]) fun w'' => Chg NoB w' w'')) := Lib.hid fun w' c => by
        have := entry_any (HM.out.chg0 c) at' hat64 (by omega) hf
        rw [hE] at this
        exact this
      have hpp : P.ppn < 17592186044416 := by have := entry_ppn b fr at'; rw [hE] at this; exact this
      have HST : Hid (findF b fr root va = if ec ≠ 0 then (Leaf.zero, ec) else if (leafB P && evenB P.ppn 2) = true then (⟨P, ((2 : Nat) : Int), at'⟩, 0) else if (leafB P || !leadsB P 2) = true then (Leaf.zero, 51) else onF b fr va P.ppn 2) := Lib.hid (by
        rw [HF.out]
        have := walk_step (b := b) (fr := fr) (va := va) (l := 2) (tab := root) (P := P) (ec := ec) (by rw [hix, hat]; exact hE)
        rw [hix, hat] at this
        exact this)
      clear hix hat hE
      obtain ⟨p, HP⟩ := HPT.out
      have HP := Lib.hid HP
      go_wp2_with fail
      with_reducible refine (HIX.out _).mono ?_
      rintro e w2 ⟨rfl, hw2⟩
      subst hw2
      go_wp2_with fail
      with_reducible refine (HEN.out _ HC.out).mono ?_
      rintro e w3 ⟨rfl, C3⟩
      have HC := Lib.hid (HC.out.step C3)
      have HR := Lib.hid (C3.blk0 HR.out)
      have HP := Lib.hid (C3.blk0 HP.out)
      clear C3
      have pp := HP.out.cell
      have pf := HP.out.frozen
      have hpl := HP.out.lt
      have HSA := store_all HP.out [.bool P.v, .bool P.r, .bool P.w, .bool P.x, .bool P.u, .bool P.g, .bool P.a, .bool P.d, .int .i64 P.rsw, .int .u64 P.ppn] rfl
      obtain ⟨w9, hw9s⟩ : ∃ w9, w3.setCells (w.heap.size + 1 + 1) 0 [.bool P.v, .bool P.r, .bool P.w, .bool P.x, .bool P.u, .bool P.g, .bool P.a, .bool P.d, .int .i64 P.rsw, .int .u64 P.ppn] = w9 := ⟨_, rfl⟩
      have hw9 : ((((((((((w3.setCell ⟨w.heap.size + 1 + 1, 0, none⟩ (.bool P.v)).setCell ⟨w.heap.size + 1 + 1, 1, none⟩ (.bool P.r)).setCell ⟨w.heap.size + 1 + 1, 2, none⟩ (.bool P.w)).setCell ⟨w.heap.size + 1 + 1, 3, none⟩ (.bool P.x)).setCell ⟨w.heap.size + 1 + 1, 4, none⟩ (.bool P.u)).setCell ⟨w.heap.size + 1 + 1, 5, none⟩ (.bool P.g)).setCell ⟨w.heap.size + 1 + 1, 6, none⟩ (.bool P.a)).setCell ⟨w.heap.size + 1 + 1, 7, none⟩ (.bool P.d)).setCell ⟨w.heap.size + 1 + 1, 8, none⟩ (.int .i64 P.rsw)).setCell ⟨w.heap.size + 1 + 1, 9, none⟩ (.int .u64 P.ppn)) = w9 := by rw [← hw9s]; rfl
      rw [hw9s] at HSA
      have HP9 := Lib.hid HSA.1
      have HC : Hid (Chg NoB w w9) := Lib.hid (HC.out.trans HSA.2 fun k hk e => by
        have e : k = w.heap.size + 1 + 1 := e
        omega)
      have HR := Lib.hid (HSA.2.blk HR.out (by show ¬ w.heap.size + 1 = w.heap.size + 1 + 1; omega))
      clear HSA hw9s
      go_upto_block 1 with fail
      clear hw9 pp pf hpl
      by_cases hec : ec = 0
      · subst hec
        have HST : Hid (findF b fr root va = if (leafB P && evenB P.ppn 2) = true then (⟨P, ((2 : Nat) : Int), at'⟩, 0) else if (leafB P || !leadsB P 2) = true then (Leaf.zero, 51) else onF b fr va P.ppn 2) := Lib.hid (by rw [HST.out, if_neg (by simp)])
        obtain ⟨lf, hlf⟩ : ∃ x, leafB P = x := ⟨_, rfl⟩
        obtain ⟨ev, hev⟩ : ∃ x, evenB P.ppn 2 = x := ⟨_, rfl⟩
        obtain ⟨ld, hld⟩ : ∃ x, leadsB P 2 = x := ⟨_, rfl⟩
        have HLF : Hid (∀ w', Calls Tryz.prog 102 #[.agg #[.bool P.v, .bool P.r, .bool P.w, .bool P.x, .bool P.u, .bool P.g, .bool P.a, .bool P.d, .int .i64 P.rsw, .int .u64 P.ppn]] w' (RetW (.bool lf) fun w'' => Chg NoB w' w'')) := Lib.hid fun w' => by
          have := pteLeaf_any P w'
          rwa [hlf] at this
        have HEV : Hid (∀ w', Calls Tryz.prog 140 #[.int .u64 P.ppn, .int .i64 2] w' (RetW (.bool ev) fun w'' => w'' = w')) := Lib.hid fun w' => by
          have := even_any P.ppn 2 w' hpp HLV.out
          rwa [show (2 : Int).toNat = 2 by omega, hev] at this
        have HLD : Hid (∀ w', Calls Tryz.prog 141 #[.agg #[.bool P.v, .bool P.r, .bool P.w, .bool P.x, .bool P.u, .bool P.g, .bool P.a, .bool P.d, .int .i64 P.rsw, .int .u64 P.ppn], .int .i64 2] w' (RetW (.bool ld) fun w'' => Chg NoB w' w'')) := Lib.hid fun w' => by
          have := leads_any P 2 w' HLV.out
          rwa [show (2 : Int).toNat = 2 by omega, hld] at this
        rw [hlf, hev, hld] at HST
        have HLDP : Hid (ld = true → 0 < 2) := Lib.hid fun h => by
          rw [← hld] at h
          unfold leadsB at h
          rw [Bool.and_eq_true] at h
          exact of_decide_eq_true h.1
        clear hlf hev hld
        have y := HP9.out.cell
        have hyl := HP9.out.lt
        go_wp2_with fail
        with_reducible refine (HLF.out _).mono ?_
        rintro e w10 ⟨rfl, C10⟩
        have HC := Lib.hid (HC.out.step C10)
        have HR := Lib.hid (C10.blk0 HR.out)
        have HP9 := Lib.hid (C10.blk0 HP9.out)
        clear C10 y hyl
        have y := HP9.out.cell
        have hyl := HP9.out.lt
        cases lf
        ·
          go_wp2_with fail
          with_reducible refine (HLF.out _).mono ?_
          rintro e w10 ⟨rfl, C10⟩
          have HC := Lib.hid (HC.out.step C10)
          have HR := Lib.hid (C10.blk0 HR.out)
          have HP9 := Lib.hid (C10.blk0 HP9.out)
          clear C10 y hyl
          have y := HP9.out.cell
          have hyl := HP9.out.lt
          go_wp2_with fail
          with_reducible refine (HLD.out _).mono ?_
          rintro e w10 ⟨rfl, C10⟩
          have HC := Lib.hid (HC.out.step C10)
          have HR := Lib.hid (C10.blk0 HR.out)
          have HP9 := Lib.hid (C10.blk0 HP9.out)
          clear C10 y hyl
          cases ld
          · have HF0 : Hid (findF b fr root va = (Leaf.zero, 51)) := Lib.hid (by rw [HST.out]; rfl)
            skip
            have r := HR.out.cell
            have rf := HR.out.frozen
            have hrl := HR.out.lt
            go_wp2_with fail
            simp only [Exit.jump]
            exact bodyPost_ret (v := .tuple #[.agg #[.bool false, .bool false, .bool false, .bool false, .bool false, .bool false, .bool false, .bool false, .int .i64 0, .int .u64 0, .int .i64 0, .int .u64 0], .int .i64 51]) (by simp [results, Tryz.results99, go_sem, r, hrl]) rfl ⟨by rw [HF0.out]; rfl, set12 HC.out _ _ _ _ _ _ _ _ _ _ _ _⟩
          · have HF1 : Hid (findF b fr root va = onF b fr va P.ppn 2) := Lib.hid (by rw [HST.out]; rfl)
            have hl0 := HLDP.out rfl
            have y := HP9.out.cell
            have hyl := HP9.out.lt
            go_wp2_with fail
            go_quiet (fail)
            go_wp2_with fail
            go_step3
            exact ⟨rfl, 1, P.ppn, _, _, _, _, _, _, _, _, _, _, _, _, _, _, _, _, _, _, _, _, _, _, _, _, _, _, _, _, _, _, _, _, _, _, _, _, _, _, _, _, _, _, _, _, _, _, _, _, _, _, _, _, _, _, _, _, _, _, _, _, _, _, _, _, _, _, rfl, ⟨by omega, hpp, by rw [HF1.out]; rfl, HC.out.drewN nq, HR.out.drewN nq, P, HP9.out.drewN nq⟩⟩
        · go_wp2_with fail
          with_reducible refine (HEV.out _).mono ?_
          rintro e w11 ⟨rfl, hw11⟩
          subst hw11
          cases ev
          ·
            go_wp2_with fail
            with_reducible refine (HLF.out _).mono ?_
            rintro e w10 ⟨rfl, C10⟩
            have HC := Lib.hid (HC.out.step C10)
            have HR := Lib.hid (C10.blk0 HR.out)
            have HP9 := Lib.hid (C10.blk0 HP9.out)
            clear C10 y hyl
            have y := HP9.out.cell
            have hyl := HP9.out.lt
            have HF0 : Hid (findF b fr root va = (Leaf.zero, 51)) := Lib.hid (by rw [HST.out]; rfl)
            have r := HR.out.cell
            have rf := HR.out.frozen
            have hrl := HR.out.lt
            go_wp2_with fail
            simp only [Exit.jump]
            exact bodyPost_ret (v := .tuple #[.agg #[.bool false, .bool false, .bool false, .bool false, .bool false, .bool false, .bool false, .bool false, .int .i64 0, .int .u64 0, .int .i64 0, .int .u64 0], .int .i64 51]) (by simp [results, Tryz.results99, go_sem, r, hrl]) rfl ⟨by rw [HF0.out]; rfl, set12 HC.out _ _ _ _ _ _ _ _ _ _ _ _⟩
          · have HF0 : Hid (findF b fr root va = (⟨P, ((2 : Nat) : Int), at'⟩, 0)) := Lib.hid (by rw [HST.out]; rfl)
            have r := HR.out.cell
            have rf := HR.out.frozen
            have hrl := HR.out.lt
            go_wp2_with fail
            simp only [Exit.jump]
            exact bodyPost_ret (v := .tuple #[.agg #[.bool P.v, .bool P.r, .bool P.w, .bool P.x, .bool P.u, .bool P.g, .bool P.a, .bool P.d, .int .i64 P.rsw, .int .u64 P.ppn, .int .i64 2, .int .u64 at'], .int .i64 0]) (by simp [results, Tryz.results99, go_sem, r, hrl]) rfl ⟨by rw [HF0.out]; rfl, set12 HC.out _ _ _ _ _ _ _ _ _ _ _ _⟩
      · have HF0 : Hid (findF b fr root va = (Leaf.zero, ec)) := Lib.hid (by rw [HST.out, if_pos hec])
        have t1 : (ec == 0) = false := beq_eq_false_iff_ne.2 hec
        have t2 : (ec != 0) = true := by rw [bne, t1]; rfl
        clear hec
        have r := HR.out.cell
        have rf := HR.out.frozen
        have hrl := HR.out.lt
        go_wp2_with fail
        simp only [Exit.jump]
        exact bodyPost_ret (v := .tuple #[.agg #[.bool false, .bool false, .bool false, .bool false, .bool false, .bool false, .bool false, .bool false, .int .i64 0, .int .u64 0, .int .i64 0, .int .u64 0], .int .i64 ec]) (by simp [results, Tryz.results99, go_sem, r, hrl]) rfl ⟨by rw [HF0.out]; rfl, set12 HC.out _ _ _ _ _ _ _ _ _ _ _ _⟩
    · have hcf : canonB va = false := by simpa using hc
      rw [hcf] at HCn
      have HF0 : Hid (findF b fr root va = (Leaf.zero, 51)) := Lib.hid (by unfold findF; rw [hcf]; rfl)
      clear hc hcf
      have HC := Lib.hid ((((Chg.refl NoB w).alloc (.cells #[.bool true, .int .i64 asid, .int .u64 root] 87)).alloc (.cells #[.bool false, .bool false, .bool false, .bool false, .bool false, .bool false, .bool false, .bool false, .int .i64 0, .int .u64 0, .int .i64 0, .int .u64 0] 137)))
      have HR := Lib.hid ((Blk.new (w.alloc (.cells #[.bool true, .int .i64 asid, .int .u64 root] 87)) #[.bool false, .bool false, .bool false, .bool false, .bool false, .bool false, .bool false, .bool false, .int .i64 0, .int .u64 0, .int .i64 0, .int .u64 0] 137))
      rw [show (w.alloc (.cells #[.bool true, .int .i64 asid, .int .u64 root] 87)).heap.size = w.heap.size + 1 by simp] at HR
      go_wp2_with fail
      with_reducible refine (HCn.out _).mono ?_
      rintro e w1 ⟨rfl, hw1⟩
      subst hw1
      generalize ((w.alloc (.cells #[.bool true, .int .i64 asid, .int .u64 root] 87)).alloc (.cells #[.bool false, .bool false, .bool false, .bool false, .bool false, .bool false, .bool false, .bool false, .int .i64 0, .int .u64 0, .int .i64 0, .int .u64 0] 137)) = wr at *
      have r := HR.out.cell
      have rf := HR.out.frozen
      have hrl := HR.out.lt
      go_wp2_with fail
      simp only [Exit.jump]
      exact bodyPost_ret (v := .tuple #[.agg #[.bool false, .bool false, .bool false, .bool false, .bool false, .bool false, .bool false, .bool false, .int .i64 0, .int .u64 0, .int .i64 0, .int .u64 0], .int .i64 51]) (by simp [results, Tryz.results99, go_sem, r, hrl]) rfl ⟨by rw [HF0.out]; rfl, set12 HC.out _ _ _ _ _ _ _ _ _ _ _ _⟩
  · rintro a' w' ⟨l, tab, u3, u5, u8, u10, u13, u14, u15, u16, u17, u18, u19, u20, u21, u22, u23, u24, u25, u26, u27, u28, u29, u30, u31, u32, u33, u34, u35, u36, u37, u38, u39, u40, u41, u42, u43, u44, u45, u46, u47, u48, u49, u50, u51, u52, u53, u54, u55, u56, u57, u58, u59, u60, u61, u62, u63, u64, u65, u66, u67, u68, u69, u70, u71, u72, u73, u74, rfl, hj⟩
    obtain ⟨hl1, htb, heq, hchg, hres, hpt⟩ := hj
    have HF := Lib.hid heq
    have HC := Lib.hid hchg
    have HR := Lib.hid hres
    have HPT := Lib.hid hpt
    have HLV : Hid (levelB (l : Int) = true) := Lib.hid (by rcases (show l = 0 ∨ l = 1 by omega) with rfl | rfl <;> rfl)
    clear heq hchg hres hpt
    obtain ⟨ix, hix⟩ : ∃ ix, idx va l = ix := ⟨_, rfl⟩
    have hix9 : ix < 512 := by rw [← hix]; exact Nat.mod_lt _ (by omega)
    have HIX : Hid (∀ w', Calls Tryz.prog 138 #[.int .u64 va, .int .i64 (l : Int)] w' (RetW (.int .i64 ix) fun w'' => w'' = w')) := Lib.hid fun w' => by
      have := index_any va (l : Int) w' hv HLV.out
      rw [show ((l : Int) : Int).toNat = l by omega, hix] at this
      exact this
    obtain ⟨at', hat⟩ : ∃ at', tab * 4096 + 8 * ix = at' := ⟨_, rfl⟩
    have hat64 : at' < 18446744073709551616 := by omega
    have e1 : (tab : Int) * 4096 + 8 * (ix : Int) = (at' : Int) := by omega
    obtain ⟨⟨P, ec⟩, hE⟩ : ∃ q, entryF b fr at' = q := ⟨_, rfl⟩
    have HEN : Hid (∀ w', Chg NoB w w' → Calls Tryz.prog 139 #[.pointer (some ⟨mb, 0, none⟩), .int .u64 at'] w' (RetW (.tuple #[.agg #[.bool P.v, .bool P.r, .bool P.w, .bool P.x, .bool P.u, .bool P.g, .bool P.a, .bool P.d, .int .i64 P.rsw, .int .u64 P.ppn], .int .i64 ec]) fun w'' => Chg NoB w' w'')) := Lib.hid fun w' c => by
      have := entry_any (HM.out.chg0 c) at' hat64 (by omega) hf
      rw [hE] at this
      exact this
    have hpp : P.ppn < 17592186044416 := by have := entry_ppn b fr at'; rw [hE] at this; exact this
    have HST : Hid (findF b fr root va = if ec ≠ 0 then (Leaf.zero, ec) else if (leafB P && evenB P.ppn l) = true then (⟨P, ((l : Nat) : Int), at'⟩, 0) else if (leafB P || !leadsB P l) = true then (Leaf.zero, 51) else onF b fr va P.ppn l) := Lib.hid (by
      rw [HF.out]
      have := walk_step (b := b) (fr := fr) (va := va) (l := l) (tab := tab) (P := P) (ec := ec) (by rw [hix, hat]; exact hE)
      rw [hix, hat] at this
      exact this)
    clear hix hat hE
    obtain ⟨p, HP⟩ := HPT.out
    have HP := Lib.hid HP
    go_wp2_with fail
    with_reducible refine (HIX.out _).mono ?_
    rintro e w2 ⟨rfl, hw2⟩
    subst hw2
    go_wp2_with fail
    with_reducible refine (HEN.out _ HC.out).mono ?_
    rintro e w3 ⟨rfl, C3⟩
    have HC := Lib.hid (HC.out.step C3)
    have HR := Lib.hid (C3.blk0 HR.out)
    have HP := Lib.hid (C3.blk0 HP.out)
    clear C3
    have pp := HP.out.cell
    have pf := HP.out.frozen
    have hpl := HP.out.lt
    have HSA := store_all HP.out [.bool P.v, .bool P.r, .bool P.w, .bool P.x, .bool P.u, .bool P.g, .bool P.a, .bool P.d, .int .i64 P.rsw, .int .u64 P.ppn] rfl
    obtain ⟨w9, hw9s⟩ : ∃ w9, w3.setCells (w.heap.size + 1 + 1) 0 [.bool P.v, .bool P.r, .bool P.w, .bool P.x, .bool P.u, .bool P.g, .bool P.a, .bool P.d, .int .i64 P.rsw, .int .u64 P.ppn] = w9 := ⟨_, rfl⟩
    have hw9 : ((((((((((w3.setCell ⟨w.heap.size + 1 + 1, 0, none⟩ (.bool P.v)).setCell ⟨w.heap.size + 1 + 1, 1, none⟩ (.bool P.r)).setCell ⟨w.heap.size + 1 + 1, 2, none⟩ (.bool P.w)).setCell ⟨w.heap.size + 1 + 1, 3, none⟩ (.bool P.x)).setCell ⟨w.heap.size + 1 + 1, 4, none⟩ (.bool P.u)).setCell ⟨w.heap.size + 1 + 1, 5, none⟩ (.bool P.g)).setCell ⟨w.heap.size + 1 + 1, 6, none⟩ (.bool P.a)).setCell ⟨w.heap.size + 1 + 1, 7, none⟩ (.bool P.d)).setCell ⟨w.heap.size + 1 + 1, 8, none⟩ (.int .i64 P.rsw)).setCell ⟨w.heap.size + 1 + 1, 9, none⟩ (.int .u64 P.ppn)) = w9 := by rw [← hw9s]; rfl
    rw [hw9s] at HSA
    have HP9 := Lib.hid HSA.1
    have HC : Hid (Chg NoB w w9) := Lib.hid (HC.out.trans HSA.2 fun k hk e => by
      have e : k = w.heap.size + 1 + 1 := e
      omega)
    have HR := Lib.hid (HSA.2.blk HR.out (by show ¬ w.heap.size + 1 = w.heap.size + 1 + 1; omega))
    clear HSA hw9s
    go_upto_block 1 with fail
    clear hw9 pp pf hpl
    by_cases hec : ec = 0
    · subst hec
      have HST : Hid (findF b fr root va = if (leafB P && evenB P.ppn l) = true then (⟨P, ((l : Nat) : Int), at'⟩, 0) else if (leafB P || !leadsB P l) = true then (Leaf.zero, 51) else onF b fr va P.ppn l) := Lib.hid (by rw [HST.out, if_neg (by simp)])
      obtain ⟨lf, hlf⟩ : ∃ x, leafB P = x := ⟨_, rfl⟩
      obtain ⟨ev, hev⟩ : ∃ x, evenB P.ppn l = x := ⟨_, rfl⟩
      obtain ⟨ld, hld⟩ : ∃ x, leadsB P l = x := ⟨_, rfl⟩
      have HLF : Hid (∀ w', Calls Tryz.prog 102 #[.agg #[.bool P.v, .bool P.r, .bool P.w, .bool P.x, .bool P.u, .bool P.g, .bool P.a, .bool P.d, .int .i64 P.rsw, .int .u64 P.ppn]] w' (RetW (.bool lf) fun w'' => Chg NoB w' w'')) := Lib.hid fun w' => by
        have := pteLeaf_any P w'
        rwa [hlf] at this
      have HEV : Hid (∀ w', Calls Tryz.prog 140 #[.int .u64 P.ppn, .int .i64 (l : Int)] w' (RetW (.bool ev) fun w'' => w'' = w')) := Lib.hid fun w' => by
        have := even_any P.ppn (l : Int) w' hpp HLV.out
        rwa [show ((l : Int) : Int).toNat = l by omega, hev] at this
      have HLD : Hid (∀ w', Calls Tryz.prog 141 #[.agg #[.bool P.v, .bool P.r, .bool P.w, .bool P.x, .bool P.u, .bool P.g, .bool P.a, .bool P.d, .int .i64 P.rsw, .int .u64 P.ppn], .int .i64 (l : Int)] w' (RetW (.bool ld) fun w'' => Chg NoB w' w'')) := Lib.hid fun w' => by
        have := leads_any P (l : Int) w' HLV.out
        rwa [show ((l : Int) : Int).toNat = l by omega, hld] at this
      rw [hlf, hev, hld] at HST
      have HLDP : Hid (ld = true → 0 < l) := Lib.hid fun h => by
        rw [← hld] at h
        unfold leadsB at h
        rw [Bool.and_eq_true] at h
        exact of_decide_eq_true h.1
      clear hlf hev hld
      have y := HP9.out.cell
      have hyl := HP9.out.lt
      go_wp2_with fail
      with_reducible refine (HLF.out _).mono ?_
      rintro e w10 ⟨rfl, C10⟩
      have HC := Lib.hid (HC.out.step C10)
      have HR := Lib.hid (C10.blk0 HR.out)
      have HP9 := Lib.hid (C10.blk0 HP9.out)
      clear C10 y hyl
      have y := HP9.out.cell
      have hyl := HP9.out.lt
      cases lf
      ·
        go_wp2_with fail
        with_reducible refine (HLF.out _).mono ?_
        rintro e w10 ⟨rfl, C10⟩
        have HC := Lib.hid (HC.out.step C10)
        have HR := Lib.hid (C10.blk0 HR.out)
        have HP9 := Lib.hid (C10.blk0 HP9.out)
        clear C10 y hyl
        have y := HP9.out.cell
        have hyl := HP9.out.lt
        go_wp2_with fail
        with_reducible refine (HLD.out _).mono ?_
        rintro e w10 ⟨rfl, C10⟩
        have HC := Lib.hid (HC.out.step C10)
        have HR := Lib.hid (C10.blk0 HR.out)
        have HP9 := Lib.hid (C10.blk0 HP9.out)
        clear C10 y hyl
        cases ld
        · have HF0 : Hid (findF b fr root va = (Leaf.zero, 51)) := Lib.hid (by rw [HST.out]; rfl)
          skip
          have r := HR.out.cell
          have rf := HR.out.frozen
          have hrl := HR.out.lt
          go_wp2_with fail
          simp only [Exit.jump]
          exact bodyPost_ret (v := .tuple #[.agg #[.bool false, .bool false, .bool false, .bool false, .bool false, .bool false, .bool false, .bool false, .int .i64 0, .int .u64 0, .int .i64 0, .int .u64 0], .int .i64 51]) (by simp [results, Tryz.results99, go_sem, r, hrl]) rfl ⟨by rw [HF0.out]; rfl, set12 HC.out _ _ _ _ _ _ _ _ _ _ _ _⟩
        · have HF1 : Hid (findF b fr root va = onF b fr va P.ppn l) := Lib.hid (by rw [HST.out]; rfl)
          have hl0 := HLDP.out rfl
          obtain rfl : l = 1 := by omega
          have y := HP9.out.cell
          have hyl := HP9.out.lt
          go_wp2_with fail
          go_quiet (fail)
          go_wp2_with fail
          go_step3
          exact ⟨rfl, ⟨0, P.ppn, _, _, _, _, _, _, _, _, _, _, _, _, _, _, _, _, _, _, _, _, _, _, _, _, _, _, _, _, _, _, _, _, _, _, _, _, _, _, _, _, _, _, _, _, _, _, _, _, _, _, _, _, _, _, _, _, _, _, _, _, _, _, _, _, _, _, rfl, ⟨by omega, hpp, by rw [HF1.out]; rfl, HC.out.drewN nq, HR.out.drewN nq, P, HP9.out.drewN nq⟩⟩, by show (0 : Int).toNat < (1 : Int).toNat; omega⟩
      · go_wp2_with fail
        with_reducible refine (HEV.out _).mono ?_
        rintro e w11 ⟨rfl, hw11⟩
        subst hw11
        cases ev
        ·
          go_wp2_with fail
          with_reducible refine (HLF.out _).mono ?_
          rintro e w10 ⟨rfl, C10⟩
          have HC := Lib.hid (HC.out.step C10)
          have HR := Lib.hid (C10.blk0 HR.out)
          have HP9 := Lib.hid (C10.blk0 HP9.out)
          clear C10 y hyl
          have y := HP9.out.cell
          have hyl := HP9.out.lt
          have HF0 : Hid (findF b fr root va = (Leaf.zero, 51)) := Lib.hid (by rw [HST.out]; rfl)
          have r := HR.out.cell
          have rf := HR.out.frozen
          have hrl := HR.out.lt
          go_wp2_with fail
          simp only [Exit.jump]
          exact bodyPost_ret (v := .tuple #[.agg #[.bool false, .bool false, .bool false, .bool false, .bool false, .bool false, .bool false, .bool false, .int .i64 0, .int .u64 0, .int .i64 0, .int .u64 0], .int .i64 51]) (by simp [results, Tryz.results99, go_sem, r, hrl]) rfl ⟨by rw [HF0.out]; rfl, set12 HC.out _ _ _ _ _ _ _ _ _ _ _ _⟩
        · have HF0 : Hid (findF b fr root va = (⟨P, ((l : Nat) : Int), at'⟩, 0)) := Lib.hid (by rw [HST.out]; rfl)
          have r := HR.out.cell
          have rf := HR.out.frozen
          have hrl := HR.out.lt
          go_wp2_with fail
          simp only [Exit.jump]
          exact bodyPost_ret (v := .tuple #[.agg #[.bool P.v, .bool P.r, .bool P.w, .bool P.x, .bool P.u, .bool P.g, .bool P.a, .bool P.d, .int .i64 P.rsw, .int .u64 P.ppn, .int .i64 (l : Int), .int .u64 at'], .int .i64 0]) (by simp [results, Tryz.results99, go_sem, r, hrl]) rfl ⟨by rw [HF0.out]; rfl, set12 HC.out _ _ _ _ _ _ _ _ _ _ _ _⟩
    · have HF0 : Hid (findF b fr root va = (Leaf.zero, ec)) := Lib.hid (by rw [HST.out, if_pos hec])
      have t1 : (ec == 0) = false := beq_eq_false_iff_ne.2 hec
      have t2 : (ec != 0) = true := by rw [bne, t1]; rfl
      clear hec
      have r := HR.out.cell
      have rf := HR.out.frozen
      have hrl := HR.out.lt
      go_wp2_with fail
      simp only [Exit.jump]
      exact bodyPost_ret (v := .tuple #[.agg #[.bool false, .bool false, .bool false, .bool false, .bool false, .bool false, .bool false, .bool false, .int .i64 0, .int .u64 0, .int .i64 0, .int .u64 0], .int .i64 ec]) (by simp [results, Tryz.results99, go_sem, r, hrl]) rfl ⟨by rw [HF0.out]; rfl, set12 HC.out _ _ _ _ _ _ _ _ _ _ _ _⟩
end Go.Proofs.YtdjaeoeejcmhdaaGreatDoor
