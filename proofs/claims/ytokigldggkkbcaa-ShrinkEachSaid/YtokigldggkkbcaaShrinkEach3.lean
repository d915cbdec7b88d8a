/- ShrinkEach returns true, whatever it is given. -/
import Derived.Test.YtokigldggkkbcaaShrinkEach2
set_option linter.unusedVariables false
namespace Go.Proofs.Ytokigldggkkbcaa
open Go.RowKit Go.RR

theorem run_str8 {P : Program} {w : World} {S : Nat → Prop} {v : Value} {s : ByteArray} (src dst e : TypeId) (hs : P.underlying src = some (.slice e)) (he : P.underlying e = some (.int .u8)) (hd : P.underlying dst = some .string)
    (h : Sl w S 1 v s.size (byteCells s)) : (convert src dst v).run P w = .ok (.string s) w := by
  obtain ⟨hl, p, cap, rfl, hn, hc⟩ := h
  have hsz : s.size = s.data.toList.length := by cases s; rfl
  cases p with
  | none =>
    have h0 : s.size = 0 := by
      rcases Nat.eq_zero_or_pos s.size with h | h
      · exact h
      · obtain ⟨_, _, h, _⟩ := hc h; cases h
    have : s = ByteArray.empty := by
      cases s with
      | mk d => cases d with
        | mk l =>
          have : l = [] := List.eq_nil_of_length_eq_zero (by simpa using hsz.symm.trans h0)
          subst this; rfl
    rw [run_convert_bytes_nil w src e hs he s.size cap dst hd, this]
  | some a =>
    have hb := run_convert_bytes_back (P := P) w src dst e a cap s.data.toList hs he hd (fun j hj => by
      obtain ⟨g, off, ha, -, -, q⟩ := hc (by omega)
      cases ha
      rw [Addr.add_lit]
      exact q j _ (by simp [byteCells, List.getElem?_eq_getElem hj]))
    rw [← hsz] at hb
    simpa using hb
theorem bytes8 (zs : List Int) : ∃ s : ByteArray, s.size = zs.length ∧ byteCells s = u8s zs := by
  refine ⟨⟨(zs.map fun z => UInt8.ofNat (z % 256).toNat).toArray⟩, by simp [ByteArray.size], ?_⟩
  simp only [byteCells, u8s, List.map_map]
  refine List.map_congr_left fun z h => ?_
  have : (UInt8.ofNat (z % 256).toNat).toNat = (z % 256).toNat := by rw [UInt8.toNat_ofNat']; exact Nat.mod_eq_of_lt (by omega)
  simp only [Function.comp, this]
  congr 1
  omega
theorem tot_zero : ∀ (l : List Int), (∀ (i : Nat) (y : Int), l[i]? = some y → y = 0) → tot l = 0
  | [], _ => rfl
  | y :: l, h => by
    have h0 := h 0 y rfl
    subst h0
    simp [tot, tot_zero l fun i y hi => h (i + 1) y (by simpa using hi)]

set_option maxHeartbeats 4000000 in
set_option maxRecDepth 100000 in
theorem shrinkEach_any (v : Value) (zs : List Int) (s : Int) (w : World) (hs : Sl w (fun k => k < w.heap.size) 1 v zs.length (u8s zs)) (hlen : zs.length ≤ 9223372036854775807) (hsb : 0 ≤ s ∧ s ≤ 255) (hzb : ∀ (i : Nat) (z : Int), zs[i]? = some z → 0 ≤ z ∧ z ≤ 255) :
    Calls Try.prog 12 #[v, .int .u8 s] w (RetW (.bool true) fun w' => Chg NoB w w') := by
  obtain ⟨pl, cl, rfl⟩ : ∃ p c, v = .slice p zs.length c := by obtain ⟨-, p, c, e, -⟩ := hs; exact ⟨p, c, e⟩
  have HS := Lib.hid hs
  have HZB := Lib.hid hzb
  have HSB := Lib.hid hsb
  have A1 := (Chg.refl NoB w).alloc (.cells #[.int .u8 s] 5)
  have B1 := Blk.new w #[.int .u8 s] 5
  have HB1 := Lib.hid B1
  have HZ2 := Lib.hid (show (w.alloc (.cells #[.int .u8 s] 5)).heap.size = w.heap.size + 1 by simp)
  clear hs hzb hsb B1
  by_cases hbig : 60 < zs.length
  · have hd : decide ((60 : Int) < (zs.length : Int)) = true := by simp; omega
    clear hbig
    go_enter Try.func12, Try.ntmps12
    go_upto_region 1 with fail
    generalize hw2 : w.alloc (.cells #[.int .u8 s] 5) = w2 at *
    clear hw2
    go_wp2_with fail
    refine (first38 w2).mono ?_
    rintro e w1 ⟨rfl, C1⟩
    go_wp2
    go_ret
    exact ⟨rfl, A1.step C1⟩
  · have hd : decide ((60 : Int) < (zs.length : Int)) = false := by simp; omega
    have hz60 : zs.length ≤ 60 := by omega
    clear hbig
    go_enter Try.func12, Try.ntmps12
    go_upto_region 1 with fail
    generalize hw2 : w.alloc (.cells #[.int .u8 s] 5) = w2 at *
    obtain ⟨ga, hga⟩ : ∃ ga, w.heap.size = ga := ⟨_, rfl⟩
    have HGA := Lib.hid hga
    clear hw2
    rw [hga]
    clear hga
    go_wp2_with fail
    refine (first38 w2).mono ?_
    rintro e w3 ⟨rfl, C3⟩
    have CA3 := A1.step C3
    have hz3 := C3.size
    have I3 : w3.cell? ⟨ga, 0, none⟩ = some (.int .u8 s) := by
      rw [← HGA.out]
      exact (C3.blk0 HB1.out).cell' (i := 0) (by rfl)
    have HI3 := Lib.hid I3
    clear I3
    go_wp2_with fail
    refine (b_each s w3 (asks_each ga s HSB.out w3.heap.size (by have := HZ2.out; have := HGA.out; omega)) 0 _ zs HI3.out (by omega) (by omega) (HS.out.chg0 CA3) HZB.out).mono ?_
    rintro e w4 ⟨q4, rfl, l, c4, hres, O4, I4, C4⟩
    obtain ⟨hU, hRes⟩ := hres
    have hll : l.length = zs.length := hU.1
    obtain ⟨p4, cc4, rfl⟩ : ∃ p c, q4 = .slice p zs.length c := by obtain ⟨-, p, c, e, -⟩ := O4.sl; exact ⟨p, c, e⟩
    have HI4 := Lib.hid I4
    have HO4 := Lib.hid O4.sl
    have CA4 := CA3.step C4
    have HU := Lib.hid hU
    have HRES := Lib.hid hRes
    have HLL := Lib.hid hll
    clear I4 O4 hU hRes hll
    go_wp2_with fail
    refine (each_nil1 _ w4 _ 64 #[] _ zs (HS.out.chg0 CA4) (by omega)).mono ?_
    rintro e w5 ⟨q5, rfl, O5, C5⟩
    obtain ⟨p5, c5, rfl⟩ : ∃ p c, q5 = .slice p zs.length c := by obtain ⟨-, p, c, e, -⟩ := O5.sl; exact ⟨p, c, e⟩
    have CA5 := CA4.step C5
    clear O5
    go_wp2_with fail
    refine (each_nil2 _ w5 _ 65 #[] #[] zs (HS.out.chg0 CA5) (by omega)).mono ?_
    rintro e w6 ⟨q6, rfl, O6, C6⟩
    obtain ⟨p6, c6, rfl⟩ : ∃ p c, q6 = .slice p zs.length c := by obtain ⟨-, p, c, e, -⟩ := O6.sl; exact ⟨p, c, e⟩
    have CA6 := CA5.step C6
    have C46 := C5.step C6
    have HO6 := Lib.hid (HO4.out.chg0 C46)
    have HI6 := Lib.hid (C46.cell HI4.out id)
    clear O6
    go_wp2_with fail
    go_loopg [8, 45] zs.length (fun m n ix wr => ∃ j t : Nat, j + m = zs.length ∧ ix = .int .i64 j ∧ n = .int .i64 t ∧ tot (l.take j) = t ∧ Chg NoB w6 wr)
    case atStart => exact ⟨0, 0, by omega, rfl, rfl, rfl, Chg.refl _ _⟩
    case round =>
      obtain ⟨j, t, hj, rfl, rfl, ht, C7⟩ := hrel
      have HJ := Lib.hid hj
      have HT := Lib.hid ht
      have hjz : j ≤ zs.length := by omega
      have htb : t ≤ 255000 := by have := tot_le (l.take j); rw [List.length_take] at this; omega
      clear hj ht
      have HO7 := Lib.hid (HO6.out.chg0 C7)
      have HI7 := Lib.hid (C7.cell HI6.out id)
      have CA7 := CA6.step C7
      have HS7 := Lib.hid (HS.out.chg0 CA7)
      by_cases hlt : j < zs.length
      · obtain ⟨y, hy⟩ : ∃ y, l[j]? = some y := ⟨l[j]'(by have := HLL.out; omega), List.getElem?_eq_getElem _⟩
        obtain ⟨y0, y1, z, hz, hyz⟩ := HU.out.2 j y hy
        have hzb := HZB.out j z hz
        obtain ⟨g1, o1, rfl, x1⟩ : ∃ g off, p4 = some ⟨g, off, none⟩ ∧ wr.cell? ⟨g, off + j, none⟩ = some (.int .u8 y) := by
          obtain ⟨-, p, c, e, -, h2⟩ := HO7.out
          cases e
          obtain ⟨g, off, rfl, -, -, h5⟩ := h2 (by omega)
          have := h5 j _ (u8s_at hy)
          rw [show y % 256 = y from by omega] at this
          exact ⟨g, off, rfl, this⟩
        obtain ⟨g2, o2, rfl, x2⟩ : ∃ g off, pl = some ⟨g, off, none⟩ ∧ wr.cell? ⟨g, off + j, none⟩ = some (.int .u8 z) := by
          obtain ⟨-, p, c, e, -, h2⟩ := HS7.out
          cases e
          obtain ⟨g, off, rfl, -, -, h5⟩ := h2 (by omega)
          have := h5 j _ (u8s_at hz)
          rw [show z % 256 = z from by omega] at this
          exact ⟨g, off, rfl, this⟩
        have l0 : (0 : Int) ≤ j := by omega
        have l1 : (j : Int) < zs.length := by omega
        have hd1 : decide (z < y) = false := by simp; omega
        have hsn : tot (l.take (j + 1)) = t + y.toNat := by rw [List.take_add_one, hy, tot_app, HT.out]; simp [tot, show y % 256 = y from by omega]
        obtain ⟨q, rfl⟩ : ∃ q : Nat, y = q := ⟨y.toNat, by omega⟩
        rw [Int.toNat_natCast] at hsn
        have HSN := Lib.hid hsn
        clear hy hz hyz hzb hsn
        go_wp2_with fail
        go_quiet (fail)
        generalize hw8 : wr.drewN _ = w8
        have D8 : Chg NoB wr w8 := hw8 ▸ (Chg.refl NoB wr).drewN _
        have x3 := D8.cell x1 id
        have C8 := C7.step D8
        clear hw8 x1 x2
        go_wp2_with fail
        go_roundg (zs.length - (j + 1))
        case measure => have := HJ.out; omega
        case rel => exact ⟨j + 1, t + q, by have := HJ.out; omega, by go_num, by first | rfl | go_num | simp, HSN.out, C8⟩
      · obtain rfl : j = zs.length := by have := HJ.out; omega
        have ht := HT.out
        rw [List.take_of_length_le (by have := HLL.out; omega)] at ht
        have HTT := Lib.hid ht
        have e1 : ∀ args w, (callFunc 64 args).run Try.prog w = .ok (.enter 64 args) w := enters_of Try.func64 (by kernel_rfl) rfl
        clear ht
        go_wp2_with fail
        refine (each_cl ga _ s zs _ wr HI7.out HSB.out HS7.out (by omega) _ rfl).mono ?_
        rintro e w8 ⟨rfl, rfl⟩
        rcases HRES.out with ⟨hb, rfl⟩ | ⟨hb, hb2, hfin⟩
        · rw [hb]
          obtain ⟨ba, hba1, hba2⟩ := bytes8 l
          have h1 := HO7.out
          have h2 := HS7.out
          rw [← hba2, ← hba1] at h1 h2
          have k1 := run_str8 (P := Try.prog) 22 9 5 Try.underlying22 Try.underlying5 Try.underlying9 h1
          have k2 := run_str8 (P := Try.prog) 22 9 5 Try.underlying22 Try.underlying5 Try.underlying9 h2
          rw [hba1] at k1 k2
          clear hb hba1 hba2 h1 h2
          go_wp2_with fail
          go_ret
          exact ⟨rfl, CA7⟩
        · rw [hb]
          have HB := Lib.hid hb
          have hOL := HO7.out
          rw [← HLL.out] at hOL
          have HOL := Lib.hid hOL
          have hb2' := Lib.hid hb2
          clear hb hb2 hOL
          go_wp2_with fail
          rw [← HLL.out]
          refine (each_cl ga _ s l _ wr HI7.out HSB.out HOL.out (by have := HLL.out; omega) true hb2'.out).mono ?_
          rintro e w8 ⟨rfl, rfl⟩
          by_cases hts : (t : Int) = s
          · have d1 : ((t : Int) == s) = true := by simpa using hts
            have s0 := HSB.out.1
            have s1 := HSB.out.2
            have x9 := HI7.out
            clear hts hfin
            go_wp2_with fail
            go_ret
            exact ⟨rfl, CA7⟩
          · have ht0 : t = 0 := by
              have := HTT.out
              rcases hfin with h | h
              · omega
              · rw [tot_zero l h] at this; omega
            subst ht0
            have d1 : (((0 : Nat) : Int) == s) = false := by simpa using hts
            have d2 : ((0 : Int) == s) = false := by simpa using hts
            have s0 := HSB.out.1
            have s1 := HSB.out.2
            have x9 := HI7.out
            clear hts hfin
            go_wp2_with fail
            go_ret
            exact ⟨rfl, CA7⟩
end Go.Proofs.Ytokigldggkkbcaa
