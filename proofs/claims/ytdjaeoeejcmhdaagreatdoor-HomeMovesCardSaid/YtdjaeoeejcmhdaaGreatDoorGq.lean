/- The buffer of entries: finding in it. No condition. The buffer of entries: the way that is to be filled. No condition. -/
import Derived.Test.YtdjaeoeejcmhdaaGreatDoorGp
import Derived.Test.YtdjaeoeejcmhdaaGreatDoorGj
import Derived.Deep.LoopGhost
set_option linter.unusedVariables false
set_option linter.unusedSimpArgs false
namespace Go.Proofs.YtdjaeoeejcmhdaaGreatDoor
open Go.RowKit Go.RR
def Leaf.oval (l : Option Leaf) : Value := match l with
  | some l => .tuple #[.agg #[.bool l.p.v, .bool l.p.r, .bool l.p.w, .bool l.p.x, .bool l.p.u, .bool l.p.g, .bool l.p.a, .bool l.p.d, .int .i64 l.p.rsw, .int .u64 l.p.ppn, .int .i64 l.level, .int .u64 l.pos], .bool true]
  | none => .tuple #[.agg #[.bool Leaf.zero.p.v, .bool Leaf.zero.p.r, .bool Leaf.zero.p.w, .bool Leaf.zero.p.x, .bool Leaf.zero.p.u, .bool Leaf.zero.p.g, .bool Leaf.zero.p.a, .bool Leaf.zero.p.d, .int .i64 Leaf.zero.p.rsw, .int .u64 Leaf.zero.p.ppn, .int .i64 Leaf.zero.level, .int .u64 Leaf.zero.pos], .bool false]
/-- Found in the levels that are left. -/
def tlbR (b : Tlb) (va : Nat) (asid : Int) : Nat → Option Leaf
  | 0 => none
  | n + 1 => match waysFind (tlbSet b (pageOf va (2 - (n : Int)))) va asid (2 - (n : Int)) with
    | some l => some l
    | none => tlbR b va asid n
theorem tlbR_all (b : Tlb) (va : Nat) (asid : Int) : tlbR b va asid 3 = tlbFind b va asid := by
  show (match waysFind (tlbSet b (pageOf va 0)) va asid 0 with | some l => some l | none => match waysFind (tlbSet b (pageOf va 1)) va asid 1 with | some l => some l | none => match waysFind (tlbSet b (pageOf va 2)) va asid 2 with | some l => some l | none => none) = tlbFind b va asid
  unfold tlbFind
  cases waysFind (tlbSet b (pageOf va 0)) va asid 0 with
  | some l => rfl
  | none => cases waysFind (tlbSet b (pageOf va 1)) va asid 1 with
    | some l => rfl
    | none => cases waysFind (tlbSet b (pageOf va 2)) va asid 2 <;> rfl
def orElse (a b : Option Leaf) : Option Leaf := match a with
  | some l => some l
  | none => b
theorem tlbR_step (b : Tlb) (va : Nat) (asid L : Int) (h0 : 0 ≤ L) (h1 : L < 3) : tlbR b va asid (3 - L).toNat = orElse (waysFind (tlbSet b (pageOf va L)) va asid L) (tlbR b va asid (3 - (L + 1)).toNat) := by
  obtain ⟨n, hn⟩ : ∃ n : Nat, (3 - L).toNat = n + 1 := ⟨(3 - L).toNat - 1, by omega⟩
  rw [hn, show (3 - (L + 1)).toNat = n by omega]
  have : L = 2 - (n : Int) := by omega
  subst this
  rfl
theorem waysFind_step {s : List Way} {k : Nat} {e : Way} (h : s[k]? = some e) (va : Nat) (asid l : Int) : waysFind (s.drop k) va asid l = if decide (e.leaf.level = l) && e.matches va asid then some e.leaf else waysFind (s.drop (k + 1)) va asid l := by
  obtain ⟨hk, rfl⟩ := List.getElem?_eq_some_iff.1 h
  rw [List.drop_eq_getElem_cons hk]
  unfold waysFind
  rw [List.find?_cons]
  cases hb : (decide (s[k].leaf.level = l) && s[k].matches va asid) <;> simp
theorem waysFind_end (s : List Way) (va : Nat) (asid l : Int) : waysFind (s.drop s.length) va asid l = none := by
  rw [List.drop_length]; rfl
set_option maxHeartbeats 2000000 in
set_option maxRecDepth 100000 in
theorem tlbFind_any {S : Nat → Prop} {w : World} {bb : Nat} {b : Tlb} (h : TlbAt w S bb b) (va : Nat) (asid : Int) (hv : va < 18446744073709551616) :
    Calls Tryz.prog 98 #[.pointer (some ⟨bb, 0, none⟩), .int .u64 va, .int .i64 asid] w (RetW (Leaf.oval (tlbFind b va asid)) fun w' => Chg NoB w w') := by
  rw [← tlbR_all]
  obtain ⟨R, hR⟩ : ∃ R, tlbR b va asid 3 = R := ⟨_, rfl⟩
  rw [hR]
  have HR := Lib.hid hR
  obtain ⟨ob, cap, W, gs, cur, h⟩ := h
  have HPg := Lib.hid fun (l : Int) (hl : levelB l = true) w' => tlbPage_any va l w' hv hl
  have hpl : ∀ l, pageOf va l < 18446744073709551616 := fun l => by
    unfold pageOf
    have := vpn_lt va
    exact Nat.lt_of_le_of_lt (Nat.div_le_self _ _) (by omega)
  have HMt := Lib.hid fun (e : Way) (he : levelB e.leaf.level = true) w' => wayMatches_any e va asid w' hv he
  have HC := Lib.hid ((Chg.refl NoB w).alloc (.cells #[.bool false, .bool false, .bool false, .bool false, .bool false, .bool false, .bool false, .bool false, .int .i64 0, .int .u64 0, .int .i64 0, .int .u64 0] 137))
  have HB := Lib.hid (Blk.new w #[.bool false, .bool false, .bool false, .bool false, .bool false, .bool false, .bool false, .bool false, .int .i64 0, .int .u64 0, .int .i64 0, .int .u64 0] 137)
  have hT := Lib.hid h
  clear h hR
  go_enter Tryz.func98, Tryz.ntmps98
  go_wp2_with fail
  generalize w.alloc (.cells #[.bool false, .bool false, .bool false, .bool false, .bool false, .bool false, .bool false, .bool false, .int .i64 0, .int .u64 0, .int .i64 0, .int .u64 0] 137) = w0 at *
  have HT := Lib.hid (hT.out.chg0 HC.out)
  have HSet := Lib.hid fun w' (c : Chg NoB w0 w') pg hp => tlbSet_any (TlbIn.chg0 HT.out c) pg hp
  have fr := HB.out.ever
  have fz := HB.out.everF
  have lr := HB.out.everL
  clear hT HB
  have hW := HT.out.w2
  go_loopg [14] 3 (fun k v wr => ∃ L : Int, v = .int .i64 L ∧ 0 ≤ L ∧ L ≤ 3 ∧ k = (3 - L).toNat ∧ tlbR b va asid (3 - L).toNat = R ∧ Chg NoB w0 wr)
  case atStart => exact ⟨0, rfl, by omega, by omega, rfl, HR.out, Chg.refl _ _⟩
  case round =>
    obtain ⟨L, rfl, h0, h3, hk, hRL, cr⟩ := hrel
    have HK := Lib.hid hk
    have HRL := Lib.hid hRL
    clear hk hRL
    by_cases hlt : L < 3
    · have t1 : decide (L < 3) = true := decide_eq_true hlt
      have hlB : levelB L = true := by unfold levelB; rw [decide_eq_true h0, t1]; rfl
      have HS := Lib.hid (tlbR_step b va asid L h0 hlt)
      rw [HRL.out] at HS
      obtain ⟨P, hP⟩ : ∃ P, pageOf va L = P := ⟨_, rfl⟩
      have HPg1 := Lib.hid fun w' => HPg.out L hlB w'
      have HSet1 := Lib.hid fun w' c => HSet.out w' c (pageOf va L) (hpl L)
      rw [hP] at HPg1 HSet1 HS
      obtain ⟨s, hs⟩ : ∃ s, b[P % b.length]? = some s := by
        have := HT.out.l1
        exact ⟨b[P % b.length]'(Nat.mod_lt _ (by omega)), List.getElem?_eq_getElem _⟩
      have hts : tlbSet b P = s := by unfold tlbSet; rw [List.getD_eq_getElem?_getD, hs]; rfl
      rw [hts] at HS
      obtain ⟨hrow, hsl, -, hok⟩ := HT.out.rows _ _ hs
      obtain ⟨G, hG⟩ : ∃ G, gs (P % b.length) = G := ⟨_, rfl⟩
      rw [hG] at HSet1 hrow
      have HRow := Lib.hid hrow
      have HOk := Lib.hid hok
      have HSl := Lib.hid hsl
      have lg := hrow.everL
      clear hpl hP hs hts hG hrow hok hsl hlB
      go_wp2_with fail
      with_reducible refine (HPg1.out _).mono ?_
      rintro e w1 ⟨rfl, hw1⟩
      subst hw1
      go_wp2_with fail
      with_reducible refine (HSet1.out _ cr).mono ?_
      rintro e w2 ⟨rfl, C2⟩
      have C2 := cr.step C2
      go_wp2_with fail
      go_loopg [23] W (fun k v wr => ∃ i : Nat, v = .int .i64 i ∧ i ≤ W ∧ k = W - i ∧ Chg NoB w0 wr ∧ orElse (waysFind (s.drop i) va asid L) (tlbR b va asid (3 - (L + 1)).toNat) = R)
      case atStart => exact ⟨0, rfl, by omega, by omega, C2, HS.out.symm⟩
      case round =>
        obtain ⟨i, rfl, hiW, hki, ci, hRi⟩ := hrel
        have HKi := Lib.hid hki
        have HRi := Lib.hid hRi
        clear hki hRi HS
        by_cases hi : i < W
        · obtain ⟨e, he⟩ : ∃ e, s[i]? = some e := ⟨s[i]'(by rw [HSl.out]; exact hi), List.getElem?_eq_getElem _⟩
          have heo := HOk.out e (List.mem_of_getElem? he)
          have HSt := Lib.hid (waysFind_step he va asid L)
          have HMt1 := Lib.hid fun w' => HMt.out e heo.lv w'
          obtain ⟨M, hM⟩ : ∃ M, e.matches va asid = M := ⟨_, rfl⟩
          obtain ⟨q, hq⟩ : ∃ q, (e.leaf.level == L) = q := ⟨_, rfl⟩
          rw [hM, show decide (e.leaf.level = L) = q from hq] at HSt
          rw [hM] at HMt1
          have hc : ∀ j, j < 15 → ∀ w', Chg NoB w0 w' → w'.cell? ⟨G, i * 15 + j, none⟩ = e.cs[j]? := fun j hj w' c => by
            rw [((c.blk0 HRow.out).cell (i * 15 + j)), List.getElem?_toArray, Nat.mul_comm, wcells_get he hj]
          clear hM he heo
          obtain ⟨full, asd, pg, ⟨v, r, pw, x, u, g, a, d, rsw, ppn⟩, level, pos⟩ := e
          dsimp only at hq HMt1 HSt
          have g0 : ∀ w', Chg NoB w0 w' → w'.cell? ⟨G, i * 15, none⟩ = some (.bool full) := fun w' c => hc 0 (by omega) w' c
          have g1 : ∀ w', Chg NoB w0 w' → w'.cell? ⟨G, i * 15 + 1, none⟩ = some (.int .i64 asd) := fun w' c => hc 1 (by omega) w' c
          have g2 : ∀ w', Chg NoB w0 w' → w'.cell? ⟨G, i * 15 + 2, none⟩ = some (.int .u64 pg) := fun w' c => hc 2 (by omega) w' c
          have g3 : ∀ w', Chg NoB w0 w' → w'.cell? ⟨G, i * 15 + 3, none⟩ = some (.bool v) := fun w' c => hc 3 (by omega) w' c
          have g4 : ∀ w', Chg NoB w0 w' → w'.cell? ⟨G, i * 15 + 4, none⟩ = some (.bool r) := fun w' c => hc 4 (by omega) w' c
          have g5 : ∀ w', Chg NoB w0 w' → w'.cell? ⟨G, i * 15 + 5, none⟩ = some (.bool pw) := fun w' c => hc 5 (by omega) w' c
          have g6 : ∀ w', Chg NoB w0 w' → w'.cell? ⟨G, i * 15 + 6, none⟩ = some (.bool x) := fun w' c => hc 6 (by omega) w' c
          have g7 : ∀ w', Chg NoB w0 w' → w'.cell? ⟨G, i * 15 + 7, none⟩ = some (.bool u) := fun w' c => hc 7 (by omega) w' c
          have g8 : ∀ w', Chg NoB w0 w' → w'.cell? ⟨G, i * 15 + 8, none⟩ = some (.bool g) := fun w' c => hc 8 (by omega) w' c
          have g9 : ∀ w', Chg NoB w0 w' → w'.cell? ⟨G, i * 15 + 9, none⟩ = some (.bool a) := fun w' c => hc 9 (by omega) w' c
          have g10 : ∀ w', Chg NoB w0 w' → w'.cell? ⟨G, i * 15 + 10, none⟩ = some (.bool d) := fun w' c => hc 10 (by omega) w' c
          have g11 : ∀ w', Chg NoB w0 w' → w'.cell? ⟨G, i * 15 + 11, none⟩ = some (.int .i64 rsw) := fun w' c => hc 11 (by omega) w' c
          have g12 : ∀ w', Chg NoB w0 w' → w'.cell? ⟨G, i * 15 + 12, none⟩ = some (.int .u64 ppn) := fun w' c => hc 12 (by omega) w' c
          have g13 : ∀ w', Chg NoB w0 w' → w'.cell? ⟨G, i * 15 + 13, none⟩ = some (.int .i64 level) := fun w' c => hc 13 (by omega) w' c
          have g14 : ∀ w', Chg NoB w0 w' → w'.cell? ⟨G, i * 15 + 14, none⟩ = some (.int .u64 pos) := fun w' c => hc 14 (by omega) w' c
          clear hc
          have t2 : decide ((i : Int) < W) = true := decide_eq_true (by omega)
          have t3 : decide (i < W) = true := decide_eq_true hi
          have HBz := Lib.hid (Blk.new wr #[.bool full, .int .i64 asd, .int .u64 pg, .bool v, .bool r, .bool pw, .bool x, .bool u, .bool g, .bool a, .bool d, .int .i64 rsw, .int .u64 ppn, .int .i64 level, .int .u64 pos] 230)
          have HCz := Lib.hid (ci.alloc (.cells #[.bool full, .int .i64 asd, .int .u64 pg, .bool v, .bool r, .bool pw, .bool x, .bool u, .bool g, .bool a, .bool d, .int .i64 rsw, .int .u64 ppn, .int .i64 level, .int .u64 pos] 230))
          go_upto_region 9 with fail
          generalize wr.alloc (.cells #[.bool full, .int .i64 asd, .int .u64 pg, .bool v, .bool r, .bool pw, .bool x, .bool u, .bool g, .bool a, .bool d, .int .i64 rsw, .int .u64 ppn, .int .i64 level, .int .u64 pos] 230) = wz at *
          have z1 := HBz.out.ever
          have lz := HBz.out.everL
          have cz := HCz.out
          have cz0 := Chg.refl NoB wz
          obtain ⟨zb, hzb⟩ : ∃ zb, wr.heap.size = zb := ⟨_, rfl⟩
          rw [hzb] at z1 lz ⊢
          clear hzb HBz g0 g1 g2 g3 g4 g5 g6 g7 g8 g9 g10 g11 g12 g13 g14 ci
          cases q
          · have HN : Hid (orElse (waysFind (s.drop (i + 1)) va asid L) (tlbR b va asid (3 - (L + 1)).toNat) = R) := Lib.hid (by rw [← HRi.out, HSt.out]; simp)
            go_wp2_with fail
            go_roundg (W - (i + 1))
            case rel => exact ⟨i + 1, by go_num, by omega, rfl, cz, HN.out⟩
            case measure => rw [HKi.out]; omega
          cases M
          · have HN : Hid (orElse (waysFind (s.drop (i + 1)) va asid L) (tlbR b va asid (3 - (L + 1)).toNat) = R) := Lib.hid (by rw [← HRi.out, HSt.out]; simp)
            go_wp2_with fail
            with_reducible refine (HMt1.out _).mono ?_
            rintro e w3 ⟨rfl, C3⟩
            have C3' := cz.step C3
            go_wp2_with fail
            go_roundg (W - (i + 1))
            case rel => exact ⟨i + 1, by go_num, by omega, rfl, C3', HN.out⟩
            case measure => rw [HKi.out]; omega
          · have HN : Hid (R = some ⟨⟨v, r, pw, x, u, g, a, d, rsw, ppn⟩, level, pos⟩) := Lib.hid (by rw [← HRi.out, HSt.out]; rfl)
            go_wp2_with fail
            with_reducible refine (HMt1.out _).mono ?_
            rintro e w3 ⟨rfl, C3⟩
            have C3' := cz.step C3
            have HE := Lib.hid (HC.out.step C3')
            go_wp2_with fail
            exact bodyPost_ret (v := .tuple #[.agg #[.bool v, .bool r, .bool pw, .bool x, .bool u, .bool g, .bool a, .bool d, .int .i64 rsw, .int .u64 ppn, .int .i64 level, .int .u64 pos], .bool true]) (by simp [results, Tryz.results98, go_sem, fr, lr, C3']) rfl ⟨by rw [HN.out]; rfl, ((((((((((((HE.out.setCell (.inr (Nat.le_refl _)) _).setCell (.inr (Nat.le_refl _)) _).setCell (.inr (Nat.le_refl _)) _).setCell (.inr (Nat.le_refl _)) _).setCell (.inr (Nat.le_refl _)) _).setCell (.inr (Nat.le_refl _)) _).setCell (.inr (Nat.le_refl _)) _).setCell (.inr (Nat.le_refl _)) _).setCell (.inr (Nat.le_refl _)) _).setCell (.inr (Nat.le_refl _)) _).setCell (.inr (Nat.le_refl _)) _).setCell (.inr (Nat.le_refl _)) _)⟩
        · have t3 : decide (i < W) = false := decide_eq_false hi
          have HN : Hid (tlbR b va asid (3 - (L + 1)).toNat = R) := Lib.hid (by
            rw [← HRi.out, show i = s.length by rw [HSl.out]; omega, waysFind_end]; rfl)
          go_wp2_with fail
          go_roundg (3 - (L + 1)).toNat
          case rel => exact ⟨L + 1, rfl, by omega, by omega, rfl, HN.out, ci⟩
          case measure => rw [HK.out]; omega
    · have t1 : decide (L < 3) = false := decide_eq_false hlt
      have HN : Hid (R = none) := Lib.hid (by rw [← HRL.out, show (3 - L).toNat = 0 by omega]; rfl)
      have HE := Lib.hid (HC.out.step cr)
      go_wp2_with fail
      exact bodyPost_ret (v := .tuple #[.agg #[.bool false, .bool false, .bool false, .bool false, .bool false, .bool false, .bool false, .bool false, .int .i64 0, .int .u64 0, .int .i64 0, .int .u64 0], .bool false]) (by simp [results, Tryz.results98, go_sem, fr, lr, cr]) rfl ⟨by rw [HN.out]; rfl, ((((((((((((HE.out.setCell (.inr (Nat.le_refl _)) _).setCell (.inr (Nat.le_refl _)) _).setCell (.inr (Nat.le_refl _)) _).setCell (.inr (Nat.le_refl _)) _).setCell (.inr (Nat.le_refl _)) _).setCell (.inr (Nat.le_refl _)) _).setCell (.inr (Nat.le_refl _)) _).setCell (.inr (Nat.le_refl _)) _).setCell (.inr (Nat.le_refl _)) _).setCell (.inr (Nat.le_refl _)) _).setCell (.inr (Nat.le_refl _)) _).setCell (.inr (Nat.le_refl _)) _)⟩
end Go.Proofs.YtdjaeoeejcmhdaaGreatDoor
set_option linter.unusedVariables false
set_option linter.unusedSimpArgs false
namespace Go.Proofs.YtdjaeoeejcmhdaaGreatDoor
open Go.RowKit Go.RR
theorem xor_all (p : Int) (h1 : -9223372036854775808 ≤ p) (h2 : p ≤ 9223372036854775807) : bits .xor .i64 (-1) p = -p - 1 := by
  show IntKind.i64.wrap ((BitVec.ofInt 64 (-1) ^^^ BitVec.ofInt 64 p).toNat : Int) = _
  have e : BitVec.ofInt 64 (-1) = BitVec.allOnes 64 := by decide
  rw [e, BitVec.allOnes_xor, BitVec.toNat_not, BitVec.toNat_ofInt]
  simp [IntKind.wrap, IntKind.bits, IntKind.signed]
  omega
def firstS (s : List Way) (n : Way) (i : Nat) : Option Nat := ((s.drop i).findIdx? (fun w => w.same n)).map (· + i)
def emptyF (s : List Way) (i : Nat) : Option Nat := (s.take i).findIdx? fun w => !w.full
def encO : Option Nat → Int
  | some k => k
  | none => -1
theorem firstS_step {s : List Way} {k : Nat} {e : Way} (h : s[k]? = some e) (n : Way) : firstS s n k = if e.same n then some k else firstS s n (k + 1) := by
  obtain ⟨hk, rfl⟩ := List.getElem?_eq_some_iff.1 h
  unfold firstS
  rw [List.drop_eq_getElem_cons hk, List.findIdx?_cons]
  cases hb : s[k].same n
  · simp only [Bool.false_eq_true, if_false]
    rw [Option.map_map]
    congr 1
    funext x
    show x + 1 + k = x + (k + 1)
    omega
  · simp
theorem firstS_end (s : List Way) (n : Way) : firstS s n s.length = none := by unfold firstS; rw [List.drop_length]; rfl
theorem emptyF_step {s : List Way} {k : Nat} {e : Way} (h : s[k]? = some e) : emptyF s (k + 1) = match emptyF s k with
    | some j => some j
    | none => if e.full then none else some k := by
  unfold emptyF
  obtain ⟨hk, rfl⟩ := List.getElem?_eq_some_iff.1 h
  rw [List.take_succ_eq_append_getElem hk, List.findIdx?_append]
  cases hb : (s.take k).findIdx? (fun w => !w.full) with
  | some j => rfl
  | none =>
    rw [List.length_take, Nat.min_eq_left (by omega)]
    cases hf : s[k].full <;> simp [hf]
theorem victim_split (s : List Way) (n : Way) (pick : Int) : victimF s n pick = match firstS s n 0 with
    | some i => i
    | none => match emptyF s s.length with
      | some i => i
      | none => pickOf pick % s.length := by
  unfold victimF firstS emptyF
  rw [List.drop_zero, List.take_length]
  cases List.findIdx? (fun w => w.same n) s <;> rfl
set_option maxHeartbeats 2000000 in
set_option maxRecDepth 100000 in
theorem victim_any {w : World} {G W : Nat} {s : List Way} (hb : Blk w G (wcells s).toArray 230) (hW : s.length = W) (h1 : 1 ≤ W) (h2 : W ≤ 8) (n : Way) (pick : Int) (p1 : -9223372036854775808 ≤ pick) (p2 : pick ≤ 9223372036854775807) :
    Calls Tryz.prog 142 #[.slice (some ⟨G, 0, none⟩) W W, .agg #[.bool n.full, .int .i64 n.asid, .int .u64 n.page, .bool n.leaf.p.v, .bool n.leaf.p.r, .bool n.leaf.p.w, .bool n.leaf.p.x, .bool n.leaf.p.u, .bool n.leaf.p.g, .bool n.leaf.p.a, .bool n.leaf.p.d, .int .i64 n.leaf.p.rsw, .int .u64 n.leaf.p.ppn, .int .i64 n.leaf.level, .int .u64 n.leaf.pos], .int .i64 pick] w (RetW (.int .i64 (victimF s n pick)) fun w' => Chg NoB w w') := by
  obtain ⟨res, hres⟩ : ∃ r : Int, ((victimF s n pick : Nat) : Int) = r := ⟨_, rfl⟩
  rw [hres]
  have HV := Lib.hid hres
  rw [victim_split] at HV
  have HP := Lib.hid (And.intro p1 p2)
  clear hres p1 p2
  have HW := Lib.hid hW
  obtain ⟨nfull, nasd, npg, ⟨⟨nv, nr, npw, nx, nu, ng, na, nd, nrsw, nppn⟩, nlevel, npos⟩⟩ := n
  obtain ⟨F, hF⟩ : ∃ F, firstS s ⟨nfull, nasd, npg, ⟨⟨nv, nr, npw, nx, nu, ng, na, nd, nrsw, nppn⟩, nlevel, npos⟩⟩ 0 = F := ⟨_, rfl⟩
  rw [hF] at HV
  have HF0 := Lib.hid hF
  have HB := Lib.hid (Blk.new w #[.bool nfull, .int .i64 nasd, .int .u64 npg, .bool nv, .bool nr, .bool npw, .bool nx, .bool nu, .bool ng, .bool na, .bool nd, .int .i64 nrsw, .int .u64 nppn, .int .i64 nlevel, .int .u64 npos] 230)
  have HC := Lib.hid ((Chg.refl NoB w).alloc (.cells #[.bool nfull, .int .i64 nasd, .int .u64 npg, .bool nv, .bool nr, .bool npw, .bool nx, .bool nu, .bool ng, .bool na, .bool nd, .int .i64 nrsw, .int .u64 nppn, .int .i64 nlevel, .int .u64 npos] 230))
  have HR := Lib.hid (hb.alloc (.cells #[.bool nfull, .int .i64 nasd, .int .u64 npg, .bool nv, .bool nr, .bool npw, .bool nx, .bool nu, .bool ng, .bool na, .bool nd, .int .i64 nrsw, .int .u64 nppn, .int .i64 nlevel, .int .u64 npos] 230))
  clear hF hb hW
  go_enter Tryz.func142, Tryz.ntmps142
  go_wp2_with fail
  generalize w.alloc (.cells #[.bool nfull, .int .i64 nasd, .int .u64 npg, .bool nv, .bool nr, .bool npw, .bool nx, .bool nu, .bool ng, .bool na, .bool nd, .int .i64 nrsw, .int .u64 nppn, .int .i64 nlevel, .int .u64 npos] 230) = w0 at *
  have fr := HB.out.ever
  have lr := HB.out.everL
  have lg := HR.out.everL
  obtain ⟨nb, hnb⟩ : ∃ nb, w.heap.size = nb := ⟨_, rfl⟩
  rw [hnb] at fr lr ⊢
  clear HB hnb
  go_loopg [12, 7] W (fun k v e wr => ∃ i : Nat, v = .int .i64 i ∧ i ≤ W ∧ e = .int .i64 (encO (emptyF s i)) ∧ k = W - i ∧ Chg NoB w0 wr ∧ firstS s ⟨nfull, nasd, npg, ⟨⟨nv, nr, npw, nx, nu, ng, na, nd, nrsw, nppn⟩, nlevel, npos⟩⟩ i = F)
  case atStart => exact ⟨0, rfl, by omega, rfl, by omega, Chg.refl _ _, HF0.out⟩
  case round =>
    obtain ⟨i, rfl, hiW, rfl, hki, ci, hFi⟩ := hrel
    have HKi := Lib.hid hki
    have HF := Lib.hid hFi
    clear hki hFi HF0
    by_cases hi : i < W
    · obtain ⟨e, he⟩ : ∃ e, s[i]? = some e := ⟨s[i]'(by rw [HW.out]; exact hi), List.getElem?_eq_getElem _⟩
      have HSt := Lib.hid (firstS_step he ⟨nfull, nasd, npg, ⟨⟨nv, nr, npw, nx, nu, ng, na, nd, nrsw, nppn⟩, nlevel, npos⟩⟩)
      have HEm := Lib.hid (emptyF_step he)
      have hc : ∀ j, j < 15 → ∀ w', Chg NoB w0 w' → w'.cell? ⟨G, i * 15 + j, none⟩ = e.cs[j]? := fun j hj w' c => by
        rw [((c.blk0 HR.out).cell (i * 15 + j)), List.getElem?_toArray, Nat.mul_comm, wcells_get he hj]
      clear he
      obtain ⟨full, asd, pg, ⟨⟨v, r, pw, x, u, g, a, d, rsw, ppn⟩, level, pos⟩⟩ := e
      dsimp only at HSt HEm
      have g0 : ∀ w', Chg NoB w0 w' → w'.cell? ⟨G, i * 15, none⟩ = some (.bool full) := fun w' c => hc 0 (by omega) w' c
      have g1 : ∀ w', Chg NoB w0 w' → w'.cell? ⟨G, i * 15 + 1, none⟩ = some (.int .i64 asd) := fun w' c => hc 1 (by omega) w' c
      have g2 : ∀ w', Chg NoB w0 w' → w'.cell? ⟨G, i * 15 + 2, none⟩ = some (.int .u64 pg) := fun w' c => hc 2 (by omega) w' c
      have g3 : ∀ w', Chg NoB w0 w' → w'.cell? ⟨G, i * 15 + 3, none⟩ = some (.bool v) := fun w' c => hc 3 (by omega) w' c
      have g4 : ∀ w', Chg NoB w0 w' → w'.cell? ⟨G, i * 15 + 4, none⟩ = some (.bool r) := fun w' c => hc 4 (by omega) w' c
      have g5 : ∀ w', Chg NoB w0 w' → w'.cell? ⟨G, i * 15 + 5, none⟩ = some (.bool pw) := fun w' c => hc 5 (by omega) w' c
      have g6 : ∀ w', Chg NoB w0 w' → w'.cell? ⟨G, i * 15 + 6, none⟩ = some (.bool x) := fun w' c => hc 6 (by omega) w' c
      have g7 : ∀ w', Chg NoB w0 w' → w'.cell? ⟨G, i * 15 + 7, none⟩ = some (.bool u) := fun w' c => hc 7 (by omega) w' c
      have g8 : ∀ w', Chg NoB w0 w' → w'.cell? ⟨G, i * 15 + 8, none⟩ = some (.bool g) := fun w' c => hc 8 (by omega) w' c
      have g9 : ∀ w', Chg NoB w0 w' → w'.cell? ⟨G, i * 15 + 9, none⟩ = some (.bool a) := fun w' c => hc 9 (by omega) w' c
      have g10 : ∀ w', Chg NoB w0 w' → w'.cell? ⟨G, i * 15 + 10, none⟩ = some (.bool d) := fun w' c => hc 10 (by omega) w' c
      have g11 : ∀ w', Chg NoB w0 w' → w'.cell? ⟨G, i * 15 + 11, none⟩ = some (.int .i64 rsw) := fun w' c => hc 11 (by omega) w' c
      have g12 : ∀ w', Chg NoB w0 w' → w'.cell? ⟨G, i * 15 + 12, none⟩ = some (.int .u64 ppn) := fun w' c => hc 12 (by omega) w' c
      have g13 : ∀ w', Chg NoB w0 w' → w'.cell? ⟨G, i * 15 + 13, none⟩ = some (.int .i64 level) := fun w' c => hc 13 (by omega) w' c
      have g14 : ∀ w', Chg NoB w0 w' → w'.cell? ⟨G, i * 15 + 14, none⟩ = some (.int .u64 pos) := fun w' c => hc 14 (by omega) w' c
      clear hc
      have t2 : decide ((i : Int) < W) = true := decide_eq_true (by omega)
      have t3 : decide (i < W) = true := decide_eq_true hi
      have HBz := Lib.hid (Blk.new wr #[.bool full, .int .i64 asd, .int .u64 pg, .bool v, .bool r, .bool pw, .bool x, .bool u, .bool g, .bool a, .bool d, .int .i64 rsw, .int .u64 ppn, .int .i64 level, .int .u64 pos] 230)
      have HCz := Lib.hid (ci.alloc (.cells #[.bool full, .int .i64 asd, .int .u64 pg, .bool v, .bool r, .bool pw, .bool x, .bool u, .bool g, .bool a, .bool d, .int .i64 rsw, .int .u64 ppn, .int .i64 level, .int .u64 pos] 230))
      go_upto_region 5 with fail
      generalize wr.alloc (.cells #[.bool full, .int .i64 asd, .int .u64 pg, .bool v, .bool r, .bool pw, .bool x, .bool u, .bool g, .bool a, .bool d, .int .i64 rsw, .int .u64 ppn, .int .i64 level, .int .u64 pos] 230) = wz at *
      have z1 := HBz.out.ever
      have lz := HBz.out.everL
      have cz := HCz.out
      have cz0 := Chg.refl NoB wz
      obtain ⟨zb, hzb⟩ : ∃ zb, wr.heap.size = zb := ⟨_, rfl⟩
      rw [hzb] at z1 lz ⊢
      clear hzb HBz g0 g1 g2 g3 g4 g5 g6 g7 g8 g9 g10 g11 g12 g13 g14 ci
      obtain ⟨q1, hq1⟩ : ∃ q, (level == nlevel) = q := ⟨_, rfl⟩
      obtain ⟨q2, hq2⟩ : ∃ q, ((pg : Int) == (npg : Int)) = q := ⟨_, rfl⟩
      obtain ⟨q3, hq3⟩ : ∃ q, (asd == nasd) = q := ⟨_, rfl⟩
      have HSm0 : Hid (Way.same ⟨full, asd, pg, ⟨⟨v, r, pw, x, u, g, a, d, rsw, ppn⟩, level, pos⟩⟩ ⟨nfull, nasd, npg, ⟨⟨nv, nr, npw, nx, nu, ng, na, nd, nrsw, nppn⟩, nlevel, npos⟩⟩ = (full && (q1 && (q2 && q3)))) := Lib.hid (by
        unfold Way.same
        dsimp only
        rw [show decide (level = nlevel) = q1 from hq1, show decide (pg = npg) = q2 by rw [← nat_beq]; exact hq2, show decide (asd = nasd) = q3 from hq3])
      by_cases hq : (full && (q1 && (q2 && q3))) = true
      · simp only [Bool.and_eq_true] at hq
        obtain ⟨rfl, rfl, rfl, rfl⟩ := hq
        have HN : Hid (F = some i) := Lib.hid (by rw [← HF.out, HSt.out, HSm0.out]; rfl)
        go_wp2_with fail
        go_ret
        exact ⟨congrArg (fun z : Int => Ending.returned (Value.int .i64 z)) (by rw [← HV.out, HN.out]), HC.out.step cz⟩
      · have HSm : Hid (Way.same ⟨full, asd, pg, ⟨⟨v, r, pw, x, u, g, a, d, rsw, ppn⟩, level, pos⟩⟩ ⟨nfull, nasd, npg, ⟨⟨nv, nr, npw, nx, nu, ng, na, nd, nrsw, nppn⟩, nlevel, npos⟩⟩ = false) := Lib.hid (by rw [HSm0.out]; simpa using hq)
        have HQ : Hid ((full && (q1 && (q2 && q3))) = false) := Lib.hid (by simpa using hq)
        clear HSm0 hq
        cases full
        · cases hE : emptyF s i with
          | none =>
            rw [hE] at HEm
            have HN : Hid (firstS s ⟨nfull, nasd, npg, ⟨⟨nv, nr, npw, nx, nu, ng, na, nd, nrsw, nppn⟩, nlevel, npos⟩⟩ (i + 1) = F) := Lib.hid (by rw [← HF.out, HSt.out, HSm.out]; simp)
            have HE' : Hid (encO (emptyF s (i + 1)) = (i : Int)) := Lib.hid (by rw [HEm.out]; rfl)
            have tE : encO none = -1 := rfl
            clear hE
            go_wp2_with fail
            go_roundg (W - (i + 1))
            case rel => exact ⟨i + 1, by go_num, by omega, by rw [HE'.out], rfl, cz, HN.out⟩
            case measure => rw [HKi.out]; omega
          | some j =>
            rw [hE] at HEm
            have HN : Hid (firstS s ⟨nfull, nasd, npg, ⟨⟨nv, nr, npw, nx, nu, ng, na, nd, nrsw, nppn⟩, nlevel, npos⟩⟩ (i + 1) = F) := Lib.hid (by rw [← HF.out, HSt.out, HSm.out]; simp)
            have HE' : Hid (encO (emptyF s (i + 1)) = (j : Int)) := Lib.hid (by rw [HEm.out]; rfl)
            have tE : encO (some j) = (j : Int) := rfl
            have tE' : (decide ((j : Int) < 0)) = false := decide_eq_false (by omega)
            clear hE
            go_wp2_with fail
            go_roundg (W - (i + 1))
            case rel => exact ⟨i + 1, by go_num, by omega, by rw [HE'.out], rfl, cz, HN.out⟩
            case measure => rw [HKi.out]; omega
        · have HN : Hid (firstS s ⟨nfull, nasd, npg, ⟨⟨nv, nr, npw, nx, nu, ng, na, nd, nrsw, nppn⟩, nlevel, npos⟩⟩ (i + 1) = F) := Lib.hid (by rw [← HF.out, HSt.out, HSm.out]; simp)
          have HE' : Hid (emptyF s (i + 1) = emptyF s i) := Lib.hid (by rw [HEm.out]; cases emptyF s i <;> rfl)
          cases q1
          all_goals
            try (cases q2)
            all_goals
              try (cases q3)
              all_goals
                first
                  | (exact absurd HQ.out (by decide))
                  | (go_wp2_with fail
                     go_roundg (W - (i + 1))
                     case rel => exact ⟨i + 1, by go_num, by omega, by rw [HE'.out], rfl, cz, HN.out⟩
                     case measure => rw [HKi.out]; omega)
    · have t3 : decide (i < W) = false := decide_eq_false hi
      have HN : Hid (F = none) := Lib.hid (by
        rw [← HF.out, show i = s.length by rw [HW.out]; omega, firstS_end])
      have hiL : i = s.length := by rw [HW.out]; omega
      cases hE : emptyF s i with
      | some j =>
        have HX : Hid (res = (j : Int)) := Lib.hid (by have hx := HV.out; rw [HN.out, ← hiL, hE] at hx; exact hx.symm)
        have tE : encO (some j) = (j : Int) := rfl
        have tE' : (decide (0 ≤ (j : Int))) = true := decide_eq_true (by omega)
        clear hE hiL
        go_wp2_with fail
        go_ret
        exact ⟨congrArg (fun z : Int => Ending.returned (Value.int .i64 z)) (HX.out.symm ▸ rfl : encO (some j) = res), HC.out.step ci⟩
      | none =>
        have HX : Hid (res = ((pickOf pick % W : Nat) : Int)) := Lib.hid (by have hx := HV.out; rw [HN.out, ← hiL, hE] at hx; dsimp only at hx; rw [← hx, hiL, HW.out])
        have tE : encO none = -1 := rfl
        have p1 := HP.out.1
        have p2 := HP.out.2
        have hW0 : ((W : Int) == 0) = false := by rw [beq_eq_false_iff_ne]; omega
        clear hE hiL
        by_cases hp : pick < 0
        · have tp : decide (pick < 0) = true := decide_eq_true hp
          have HE : Hid (((pickOf pick % W : Nat) : Int) = (-pick - 1) % (W : Int)) := Lib.hid (by
            rw [show pickOf pick = (-pick - 1).toNat from if_pos hp, Int.natCast_emod, Int.toNat_of_nonneg (by omega)])
          have tq : 0 ≤ -pick - 1 := by omega
          have tx := xor_all pick p1 p2
          go_wp2_with fail
          go_ret
          exact ⟨congrArg (fun z : Int => Ending.returned (Value.int .i64 z)) (by first | (rw [HX.out, HE.out]; done) | (rw [HX.out, HE.out, Int.tmod_eq_emod_of_nonneg tq])), HC.out.step ci⟩
        · have tp : decide (pick < 0) = false := decide_eq_false hp
          have HE : Hid (((pickOf pick % W : Nat) : Int) = pick % (W : Int)) := Lib.hid (by
            rw [show pickOf pick = pick.toNat from if_neg hp, Int.natCast_emod, Int.toNat_of_nonneg (by omega)])
          have tq : 0 ≤ pick := by omega
          go_wp2_with fail
          go_ret
          exact ⟨congrArg (fun z : Int => Ending.returned (Value.int .i64 z)) (by first | (rw [HX.out, HE.out]; done) | (rw [HX.out, HE.out, Int.tmod_eq_emod_of_nonneg tq])), HC.out.step ci⟩
end Go.Proofs.YtdjaeoeejcmhdaaGreatDoor
