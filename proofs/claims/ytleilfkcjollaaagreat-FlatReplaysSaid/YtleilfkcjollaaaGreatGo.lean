/- The buffer of entries: the way that is to be filled. No condition. -/
import Derived.Test.YtleilfkcjollaaaGreatGn
set_option linter.unusedVariables false
set_option linter.unusedSimpArgs false
namespace Go.Proofs.YtleilfkcjollaaaGreat
open Go.RowKit Go.RR
theorem xor_all (p : Int) (h1 : -9223372036854775808 ≤ p) (h2 : p ≤ 9223372036854775807) : bits .xor .i64 (-1) p = -p - 1 := by
  show IntKind.i64.wrap ((BitVec.ofInt 64 (-1) ^^^ BitVec.ofInt 64 p).toNat : Int) = _
  have e : BitVec.ofInt 64 (-1) = BitVec.allOnes 64 := by decide
  rw [e, BitVec.allOnes_xor, BitVec.toNat_not, BitVec.toNat_ofInt]
  simp [IntKind.wrap, IntKind.bits, IntKind.signed]
  omega
def firstS (s : List Way) (n : Way) (i : Nat) : Option Nat := ((s.drop i).findIdx? (fun w => w.same n)).map (· + i)
def emptyF (s : List Way) (i : Nat) : Option Nat := (s.take i).findIdx? fun w => !w.full
def encO : Option Nat → Int
  | some k => k
  | none => -1
theorem firstS_step {s : List Way} {k : Nat} {e : Way} (h : s[k]? = some e) (n : Way) : firstS s n k = if e.same n then some k else firstS s n (k + 1) := by
  obtain ⟨hk, rfl⟩ := List.getElem?_eq_some_iff.1 h
  unfold firstS
  rw [List.drop_eq_getElem_cons hk, List.findIdx?_cons]
  cases hb : s[k].same n
  · simp only [Bool.false_eq_true, if_false]
    rw [Option.map_map]
    congr 1
    funext x
    show x + 1 + k = x + (k + 1)
    omega
  · simp
theorem firstS_end (s : List Way) (n : Way) : firstS s n s.length = none := by unfold firstS; rw [List.drop_length]; rfl
theorem emptyF_step {s : List Way} {k : Nat} {e : Way} (h : s[k]? = some e) : emptyF s (k + 1) = match emptyF s k with
    | some j => some j
    | none => if e.full then none else some k := by
  unfold emptyF
  obtain ⟨hk, rfl⟩ := List.getElem?_eq_some_iff.1 h
  rw [List.take_succ_eq_append_getElem hk, List.findIdx?_append]
  cases hb : (s.take k).findIdx? (fun w => !w.full) with
  | some j => rfl
  | none =>
    rw [List.length_take, Nat.min_eq_left (by omega)]
    cases hf : s[k].full <;> simp [hf]
theorem victim_split (s : List Way) (n : Way) (pick : Int) : victimF s n pick = match firstS s n 0 with
    | some i => i
    | none => match emptyF s s.length with
      | some i => i
      | none => pickOf pick % s.length := by
  unfold victimF firstS emptyF
  rw [List.drop_zero, List.take_length]
  cases List.findIdx? (fun w => w.same n) s <;> rfl
set_option maxHeartbeats 2000000 in
set_option maxRecDepth 100000 in
theorem victim_any {w : World} {G W : Nat} {s : List Way} (hb : Blk w G (wcells s).toArray 275) (hW : s.length = W) (h1 : 1 ≤ W) (h2 : W ≤ 8) (n : Way) (pick : Int) (p1 : -9223372036854775808 ≤ pick) (p2 : pick ≤ 9223372036854775807) :
    Calls Tryz.prog 234 #[.slice (some ⟨G, 0, none⟩) W W, .agg #[.bool n.full, .int .i64 n.asid, .int .u64 n.page, .bool n.leaf.p.v, .bool n.leaf.p.r, .bool n.leaf.p.w, .bool n.leaf.p.x, .bool n.leaf.p.u, .bool n.leaf.p.g, .bool n.leaf.p.a, .bool n.leaf.p.d, .int .i64 n.leaf.p.rsw, .int .u64 n.leaf.p.ppn, .int .i64 n.leaf.level, .int .u64 n.leaf.pos], .int .i64 pick] w (RetW (.int .i64 (victimF s n pick)) fun w' => Chg NoB w w') := by
  obtain ⟨res, hres⟩ : ∃ r : Int, ((victimF s n pick : Nat) : Int) = r := ⟨_, rfl⟩
  rw [hres]
  have HV := Lib.hid hres
  rw [victim_split] at HV
  have HP := Lib.hid (And.intro p1 p2)
  clear hres p1 p2
  have HW := Lib.hid hW
  obtain ⟨nfull, nasd, npg, ⟨⟨nv, nr, npw, nx, nu, ng, na, nd, nrsw, nppn⟩, nlevel, npos⟩⟩ := n
  obtain ⟨F, hF⟩ : ∃ F, firstS s ⟨nfull, nasd, npg, ⟨⟨nv, nr, npw, nx, nu, ng, na, nd, nrsw, nppn⟩, nlevel, npos⟩⟩ 0 = F := ⟨_, rfl⟩
  rw [hF] at HV
  have HF0 := Lib.hid hF
  have HB := Lib.hid (Blk.new w #[.bool nfull, .int .i64 nasd, .int .u64 npg, .bool nv, .bool nr, .bool npw, .bool nx, .bool nu, .bool ng, .bool na, .bool nd, .int .i64 nrsw, .int .u64 nppn, .int .i64 nlevel, .int .u64 npos] 275)
  have HC := Lib.hid ((Chg.refl NoB w).alloc (.cells #[.bool nfull, .int .i64 nasd, .int .u64 npg, .bool nv, .bool nr, .bool npw, .bool nx, .bool nu, .bool ng, .bool na, .bool nd, .int .i64 nrsw, .int .u64 nppn, .int .i64 nlevel, .int .u64 npos] 275))
  have HR := Lib.hid (hb.alloc (.cells #[.bool nfull, .int .i64 nasd, .int .u64 npg, .bool nv, .bool nr, .bool npw, .bool nx, .bool nu, .bool ng, .bool na, .bool nd, .int .i64 nrsw, .int .u64 nppn, .int .i64 nlevel, .int .u64 npos] 275))
  clear hF hb hW
  go_enter Tryz.func234, Tryz.ntmps234
  go_wp2_with fail
  generalize w.alloc (.cells #[.bool nfull, .int .i64 nasd, .int .u64 npg, .bool nv, .bool nr, .bool npw, .bool nx, .bool nu, .bool ng, .bool na, .bool nd, .int .i64 nrsw, .int .u64 nppn, .int .i64 nlevel, .int .u64 npos] 275) = w0 at *
  have fr := HB.out.ever
  have lr := HB.out.everL
  have lg := HR.out.everL
  obtain ⟨nb, hnb⟩ : ∃ nb, w.heap.size = nb := ⟨_, rfl⟩
  rw [hnb] at fr lr ⊢
  clear HB hnb
  go_loopg [12, 7] W (fun k v e wr => ∃ i : Nat, v = .int .i64 i ∧ i ≤ W ∧ e = .int .i64 (encO (emptyF s i)) ∧ k = W - i ∧ Chg NoB w0 wr ∧ firstS s ⟨nfull, nasd, npg, ⟨⟨nv, nr, npw, nx, nu, ng, na, nd, nrsw, nppn⟩, nlevel, npos⟩⟩ i = F)
  case atStart => exact ⟨0, rfl, by omega, rfl, by omega, Chg.refl _ _, HF0.out⟩
  case round =>
    obtain ⟨i, rfl, hiW, rfl, hki, ci, hFi⟩ := hrel
    have HKi := Lib.hid hki
    have HF := Lib.hid hFi
    clear hki hFi HF0
    by_cases hi : i < W
    · obtain ⟨e, he⟩ : ∃ e, s[i]? = some e := ⟨s[i]'(by rw [HW.out]; exact hi), List.getElem?_eq_getElem _⟩
      have HSt := Lib.hid (firstS_step he ⟨nfull, nasd, npg, ⟨⟨nv, nr, npw, nx, nu, ng, na, nd, nrsw, nppn⟩, nlevel, npos⟩⟩)
      have HEm := Lib.hid (emptyF_step he)
      have hc : ∀ j, j < 15 → ∀ w', Chg NoB w0 w' → w'.cell? ⟨G, i * 15 + j, none⟩ = e.cs[j]? := fun j hj w' c => by
        rw [((c.blk0 HR.out).cell (i * 15 + j)), List.getElem?_toArray, Nat.mul_comm, wcells_get he hj]
      clear he
      obtain ⟨full, asd, pg, ⟨⟨v, r, pw, x, u, g, a, d, rsw, ppn⟩, level, pos⟩⟩ := e
      dsimp only at HSt HEm
      have g0 : ∀ w', Chg NoB w0 w' → w'.cell? ⟨G, i * 15, none⟩ = some (.bool full) := fun w' c => hc 0 (by omega) w' c
      have g1 : ∀ w', Chg NoB w0 w' → w'.cell? ⟨G, i * 15 + 1, none⟩ = some (.int .i64 asd) := fun w' c => hc 1 (by omega) w' c
      have g2 : ∀ w', Chg NoB w0 w' → w'.cell? ⟨G, i * 15 + 2, none⟩ = some (.int .u64 pg) := fun w' c => hc 2 (by omega) w' c
      have g3 : ∀ w', Chg NoB w0 w' → w'.cell? ⟨G, i * 15 + 3, none⟩ = some (.bool v) := fun w' c => hc 3 (by omega) w' c
      have g4 : ∀ w', Chg NoB w0 w' → w'.cell? ⟨G, i * 15 + 4, none⟩ = some (.bool r) := fun w' c => hc 4 (by omega) w' c
      have g5 : ∀ w', Chg NoB w0 w' → w'.cell? ⟨G, i * 15 + 5, none⟩ = some (.bool pw) := fun w' c => hc 5 (by omega) w' c
      have g6 : ∀ w', Chg NoB w0 w' → w'.cell? ⟨G, i * 15 + 6, none⟩ = some (.bool x) := fun w' c => hc 6 (by omega) w' c
      have g7 : ∀ w', Chg NoB w0 w' → w'.cell? ⟨G, i * 15 + 7, none⟩ = some (.bool u) := fun w' c => hc 7 (by omega) w' c
      have g8 : ∀ w', Chg NoB w0 w' → w'.cell? ⟨G, i * 15 + 8, none⟩ = some (.bool g) := fun w' c => hc 8 (by omega) w' c
      have g9 : ∀ w', Chg NoB w0 w' → w'.cell? ⟨G, i * 15 + 9, none⟩ = some (.bool a) := fun w' c => hc 9 (by omega) w' c
      have g10 : ∀ w', Chg NoB w0 w' → w'.cell? ⟨G, i * 15 + 10, none⟩ = some (.bool d) := fun w' c => hc 10 (by omega) w' c
      have g11 : ∀ w', Chg NoB w0 w' → w'.cell? ⟨G, i * 15 + 11, none⟩ = some (.int .i64 rsw) := fun w' c => hc 11 (by omega) w' c
      have g12 : ∀ w', Chg NoB w0 w' → w'.cell? ⟨G, i * 15 + 12, none⟩ = some (.int .u64 ppn) := fun w' c => hc 12 (by omega) w' c
      have g13 : ∀ w', Chg NoB w0 w' → w'.cell? ⟨G, i * 15 + 13, none⟩ = some (.int .i64 level) := fun w' c => hc 13 (by omega) w' c
      have g14 : ∀ w', Chg NoB w0 w' → w'.cell? ⟨G, i * 15 + 14, none⟩ = some (.int .u64 pos) := fun w' c => hc 14 (by omega) w' c
      clear hc
      have t2 : decide ((i : Int) < W) = true := decide_eq_true (by omega)
      have t3 : decide (i < W) = true := decide_eq_true hi
      have HBz := Lib.hid (Blk.new wr #[.bool full, .int .i64 asd, .int .u64 pg, .bool v, .bool r, .bool pw, .bool x, .bool u, .bool g, .bool a, .bool d, .int .i64 rsw, .int .u64 ppn, .int .i64 level, .int .u64 pos] 275)
      have HCz := Lib.hid (ci.alloc (.cells #[.bool full, .int .i64 asd, .int .u64 pg, .bool v, .bool r, .bool pw, .bool x, .bool u, .bool g, .bool a, .bool d, .int .i64 rsw, .int .u64 ppn, .int .i64 level, .int .u64 pos] 275))
      go_upto_region 5 with fail
      generalize wr.alloc (.cells #[.bool full, .int .i64 asd, .int .u64 pg, .bool v, .bool r, .bool pw, .bool x, .bool u, .bool g, .bool a, .bool d, .int .i64 rsw, .int .u64 ppn, .int .i64 level, .int .u64 pos] 275) = wz at *
      have z1 := HBz.out.ever
      have lz := HBz.out.everL
      have cz := HCz.out
      have cz0 := Chg.refl NoB wz
      obtain ⟨zb, hzb⟩ : ∃ zb, wr.heap.size = zb := ⟨_, rfl⟩
      rw [hzb] at z1 lz ⊢
      clear hzb HBz g0 g1 g2 g3 g4 g5 g6 g7 g8 g9 g10 g11 g12 g13 g14 ci
      obtain ⟨q1, hq1⟩ : ∃ q, (level == nlevel) = q := ⟨_, rfl⟩
      obtain ⟨q2, hq2⟩ : ∃ q, ((pg : Int) == (npg : Int)) = q := ⟨_, rfl⟩
      obtain ⟨q3, hq3⟩ : ∃ q, (asd == nasd) = q := ⟨_, rfl⟩
      have HSm0 : Hid (Way.same ⟨full, asd, pg, ⟨⟨v, r, pw, x, u, g, a, d, rsw, ppn⟩, level, pos⟩⟩ ⟨nfull, nasd, npg, ⟨⟨nv, nr, npw, nx, nu, ng, na, nd, nrsw, nppn⟩, nlevel, npos⟩⟩ = (full && (q1 && (q2 && q3)))) := Lib.hid (by
        unfold Way.same
        dsimp only
        rw [show decide (level = nlevel) = q1 from hq1, show decide (pg = npg) = q2 by rw [← nat_beq]; exact hq2, show decide (asd = nasd) = q3 from hq3])
      by_cases hq : (full && (q1 && (q2 && q3))) = true
      · simp only [Bool.and_eq_true] at hq
        obtain ⟨rfl, rfl, rfl, rfl⟩ := hq
        have HN : Hid (F = some i) := Lib.hid (by rw [← HF.out, HSt.out, HSm0.out]; rfl)
        go_wp2_with fail
        go_ret
        exact ⟨congrArg (fun z : Int => Ending.returned (Value.int .i64 z)) (by rw [← HV.out, HN.out]), HC.out.step cz⟩
      · have HSm : Hid (Way.same ⟨full, asd, pg, ⟨⟨v, r, pw, x, u, g, a, d, rsw, ppn⟩, level, pos⟩⟩ ⟨nfull, nasd, npg, ⟨⟨nv, nr, npw, nx, nu, ng, na, nd, nrsw, nppn⟩, nlevel, npos⟩⟩ = false) := Lib.hid (by rw [HSm0.out]; simpa using hq)
        have HQ : Hid ((full && (q1 && (q2 && q3))) = false) := Lib.hid (by simpa using hq)
        clear HSm0 hq
        cases full
        · cases hE : emptyF s i with
          | none =>
            rw [hE] at HEm
            have HN : Hid (firstS s ⟨nfull, nasd, npg, ⟨⟨nv, nr, npw, nx, nu, ng, na, nd, nrsw, nppn⟩, nlevel, npos⟩⟩ (i + 1) = F) := Lib.hid (by rw [← HF.out, HSt.out, HSm.out]; simp)
            have HE' : Hid (encO (emptyF s (i + 1)) = (i : Int)) := Lib.hid (by rw [HEm.out]; rfl)
            have tE : encO none = -1 := rfl
            clear hE
            go_wp2_with fail
            go_roundg (W - (i + 1))
            case rel => exact ⟨i + 1, by go_num, by omega, by rw [HE'.out], rfl, cz, HN.out⟩
            case measure => rw [HKi.out]; omega
          | some j =>
            rw [hE] at HEm
            have HN : Hid (firstS s ⟨nfull, nasd, npg, ⟨⟨nv, nr, npw, nx, nu, ng, na, nd, nrsw, nppn⟩, nlevel, npos⟩⟩ (i + 1) = F) := Lib.hid (by rw [← HF.out, HSt.out, HSm.out]; simp)
            have HE' : Hid (encO (emptyF s (i + 1)) = (j : Int)) := Lib.hid (by rw [HEm.out]; rfl)
            have tE : encO (some j) = (j : Int) := rfl
            have tE' : (decide ((j : Int) < 0)) = false := decide_eq_false (by omega)
            clear hE
            go_wp2_with fail
            go_roundg (W - (i + 1))
            case rel => exact ⟨i + 1, by go_num, by omega, by rw [HE'.out], rfl, cz, HN.out⟩
            case measure => rw [HKi.out]; omega
        · have HN : Hid (firstS s ⟨nfull, nasd, npg, ⟨⟨nv, nr, npw, nx, nu, ng, na, nd, nrsw, nppn⟩, nlevel, npos⟩⟩ (i + 1) = F) := Lib.hid (by rw [← HF.out, HSt.out, HSm.out]; simp)
          have HE' : Hid (emptyF s (i + 1) = emptyF s i) := Lib.hid (by rw [HEm.out]; cases emptyF s i <;> rfl)
          cases q1
          all_goals
            try (cases q2)
            all_goals
              try (cases q3)
              all_goals
                first
                  | (exact absurd HQ.out (by decide))
                  | (go_wp2_with fail
                     go_roundg (W - (i + 1))
                     case rel => exact ⟨i + 1, by go_num, by omega, by rw [HE'.out], rfl, cz, HN.out⟩
                     case measure => rw [HKi.out]; omega)
    · have t3 : decide (i < W) = false := decide_eq_false hi
      have HN : Hid (F = none) := Lib.hid (by
        rw [← HF.out, show i = s.length by rw [HW.out]; omega, firstS_end])
      have hiL : i = s.length := by rw [HW.out]; omega
      cases hE : emptyF s i with
      | some j =>
        have HX : Hid (res = (j : Int)) := Lib.hid (by have hx := HV.out; rw [HN.out, ← hiL, hE] at hx; exact hx.symm)
        have tE : encO (some j) = (j : Int) := rfl
        have tE' : (decide (0 ≤ (j : Int))) = true := decide_eq_true (by omega)
        clear hE hiL
        go_wp2_with fail
        go_ret
        exact ⟨congrArg (fun z : Int => Ending.returned (Value.int .i64 z)) (HX.out.symm ▸ rfl : encO (some j) = res), HC.out.step ci⟩
      | none =>
        have HX : Hid (res = ((pickOf pick % W : Nat) : Int)) := Lib.hid (by have hx := HV.out; rw [HN.out, ← hiL, hE] at hx; dsimp only at hx; rw [← hx, hiL, HW.out])
        have tE : encO none = -1 := rfl
        have p1 := HP.out.1
        have p2 := HP.out.2
        have hW0 : ((W : Int) == 0) = false := by rw [beq_eq_false_iff_ne]; omega
        clear hE hiL
        by_cases hp : pick < 0
        · have tp : decide (pick < 0) = true := decide_eq_true hp
          have HE : Hid (((pickOf pick % W : Nat) : Int) = (-pick - 1) % (W : Int)) := Lib.hid (by
            rw [show pickOf pick = (-pick - 1).toNat from if_pos hp, Int.natCast_emod, Int.toNat_of_nonneg (by omega)])
          have tq : 0 ≤ -pick - 1 := by omega
          have tx := xor_all pick p1 p2
          go_wp2_with fail
          go_ret
          exact ⟨congrArg (fun z : Int => Ending.returned (Value.int .i64 z)) (by first | (rw [HX.out, HE.out]; done) | (rw [HX.out, HE.out, Int.tmod_eq_emod_of_nonneg tq])), HC.out.step ci⟩
        · have tp : decide (pick < 0) = false := decide_eq_false hp
          have HE : Hid (((pickOf pick % W : Nat) : Int) = pick % (W : Int)) := Lib.hid (by
            rw [show pickOf pick = pick.toNat from if_neg hp, Int.natCast_emod, Int.toNat_of_nonneg (by omega)])
          have tq : 0 ≤ pick := by omega
          go_wp2_with fail
          go_ret
          exact ⟨congrArg (fun z : Int => Ending.returned (Value.int .i64 z)) (by first | (rw [HX.out, HE.out]; done) | (rw [HX.out, HE.out, Int.tmod_eq_emod_of_nonneg tq])), HC.out.step ci⟩
end Go.Proofs.YtleilfkcjollaaaGreat
