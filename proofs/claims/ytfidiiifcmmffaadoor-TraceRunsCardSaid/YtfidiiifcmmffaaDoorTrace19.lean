/- A script of a text, by the program. No condition. -/
import Derived.Test.YtfidiiifcmmffaaDoorTrace10
import Derived.Test.YtfidiiifcmmffaaDoorTrace15
import Derived.Test.YtfidiiifcmmffaaDoorTraceP4
import Derived.Lib.TrimByte
set_option linter.unusedVariables false
set_option linter.unusedSimpArgs false
namespace Go.Proofs.YtfidiiifcmmffaaDoor
open Go.RowKit Go.RR

theorem cut_H (l : Bs) : (Go.Lib.cut l [35]).1 = cutH l := by
  unfold Go.Lib.cut cutH
  by_cases h : (35 : UInt8) ∈ l
  · obtain ⟨a, b, rfl, hn⟩ := first_at h
    rw [idx_at hn, if_pos (by omega)]
    simp only [Int.toNat_natCast]
    rw [List.take_left]
    clear h
    induction a with
    | nil => rw [List.nil_append, List.takeWhile_cons_of_neg (by simp)]
    | cons c a ih =>
      rw [List.mem_cons, not_or] at hn
      rw [List.cons_append, List.takeWhile_cons_of_pos (by simp; exact fun e => hn.1 e.symm), ← ih hn.2]
  · rw [idx_no h, if_neg (by omega)]
    show l = _
    rw [takeWhile_id fun c hc => by simp; rintro rfl; exact h hc]
theorem trim_S (l : Bs) : Go.Lib.trimB l 32 = trimS l := by
  have e : (fun x : UInt8 => x == 32) = fun c => decide (c = 32) := by
    funext c
    by_cases h : c = 32
    · rw [h]; rfl
    · rw [decide_eq_false h, beq_eq_false_iff_ne]; exact h
  unfold Go.Lib.trimB Go.Lib.trimLeftB Go.Lib.trimRightB trimS
  rw [e]
theorem cutH_len (l : Bs) : (cutH l).length ≤ l.length := (List.takeWhile_sublist _).length_le
theorem clean_len (l : Bs) : (cleanF l).length ≤ l.length := by
  unfold cleanF trimS
  refine Nat.le_trans (List.dropWhile_sublist _).length_le ?_
  rw [List.length_reverse]
  refine Nat.le_trans (List.dropWhile_sublist _).length_le ?_
  rw [List.length_reverse]
  exact cutH_len l
/-- What Parse answers. -/
def ParseR (w : World) (s : Bs) (v : Value) (w' : World) : Prop := Chg NoB w w' ∧ ∃ l n ok q, parseF s = (l, n, ok) ∧ v = .tuple #[q, .int .i64 n, .int .i64 (if ok = true then 0 else 210)] ∧ AAt w' q l ∧ l.length ≤ 100000
theorem parseG_end (i : Nat) (out : List Ac) : parseG [] i out = (out, 0, true) := rfl
theorem parseG_skip {l : Bs} {ls : List Bs} {i : Nat} {out : List Ac} (h : cleanF l = []) : parseG (l :: ls) i out = parseG ls (i + 1) out := by rw [parseG, if_pos h]
theorem parseG_bad {l : Bs} {ls : List Bs} {i : Nat} {out : List Ac} (h : cleanF l ≠ []) (h2 : lineF (cleanF l) = none ∨ ∃ a n, lineF (cleanF l) = some (a, n) ∧ 100000 < out.length + n) : parseG (l :: ls) i out = ([], i + 1, false) := by
  rw [parseG, if_neg h]
  rcases h2 with h2 | ⟨a, n, h2, h3⟩
  · rw [h2]
  · rw [h2]
    simp only
    rw [if_pos h3]
theorem parseG_on {l : Bs} {ls : List Bs} {i : Nat} {out : List Ac} {a : Ac} {n : Nat} (h : cleanF l ≠ []) (h2 : lineF (cleanF l) = some (a, n)) (h3 : out.length + n ≤ 100000) : parseG (l :: ls) i out = parseG ls (i + 1) (out ++ List.replicate n a) := by
  rw [parseG, if_neg h, h2]
  simp only
  rw [if_neg (by omega)]
theorem alist_one (l : List Ac) : ∀ u ∈ alist l, u.oneCell' = true := by
  intro u hu
  unfold alist at hu
  obtain ⟨c, hc, hu⟩ := List.mem_flatten.1 hu
  obtain ⟨a, -, rfl⟩ := List.mem_map.1 hc
  simp only [acells, List.mem_cons, List.not_mem_nil, or_false] at hu
  rcases hu with rfl | rfl | rfl <;> rfl
theorem bsB (a : Bs) : (a == ([] : Bs)) = decide (a = []) := by
  by_cases h : a = []
  · rw [h]; rfl
  · rw [decide_eq_false h, beq_eq_false_iff_ne]; exact h
set_option maxHeartbeats 4000000 in
set_option maxRecDepth 100000 in
theorem parse_any (s : Bs) (w : World) (hl : s.length ≤ 100000) (L : Lb w) : Calls Tryd.prog 13 #[.string ⟨s.toArray⟩] w (RetV (ParseR w s)) := by
  obtain ⟨i0, hi0, hz0, hz1, hz2⟩ := info_parts ActInfo
  obtain ⟨m, hm⟩ := L.mx
  have hL0 := split_count 10 s
  have hC0 := split_cells 10 s
  have H0 := Lib.hid (Tryd.strings_Split ⟨s.toArray⟩ ⟨#[10]⟩ m w (by show s.toArray.size < _; simp; omega) hm (by decide))
  rw [hC0, hL0] at H0
  have HWL : Hid (∀ x ∈ wordsF 10 s, x.length ≤ 100000) := Lib.hid fun x hx => word_len hx hl
  have HG0 : Hid (parseF s = parseG ((wordsF 10 s).drop 0) 0 []) := Lib.hid rfl
  have hlc : (wordsF 10 s).length ≤ 100001 := by
    have h1 := words_len (c := 10) s
    have h2 := List.count_le_length (a := (10 : UInt8)) (l := s)
    omega
  generalize wordsF 10 s = ws at *
  have HL := Lib.hid L
  have HC1 := Lib.hid ((Chg.refl NoB w).alloc (.cells (ws.map bsv).toArray 9))
  have HB1 := Lib.hid (Blk.new w (ws.map bsv).toArray 9)
  clear hL0 hC0 hm L
  go_enter Tryd.func13, Tryd.ntmps13
  go_wp2_with fail
  with_reducible refine H0.out.mono ?_
  rintro e w1 ⟨rfl, hw1⟩
  subst hw1
  go_wp2_with fail
  go_loopg [5, 13, 6, 7, 8, 9] ws.length (fun g ov ix _ _ _ _ wr => ∃ (k : Nat) (out : List Ac), k + g = ws.length ∧ ix = .int .i64 k ∧ Own wr (fun k => (w.alloc (.cells (ws.map bsv).toArray 9)).heap.size ≤ k) 23 3 ov out.length (alist out) ∧ out.length ≤ 100000 ∧ parseF s = parseG (ws.drop k) k out ∧ Chg NoB (w.alloc (.cells (ws.map bsv).toArray 9)) wr)
  case atStart => exact ⟨0, [], by omega, rfl, Own.nil _ _ _ _, by simp, HG0.out, Chg.refl _ _⟩
  case round =>
    obtain ⟨k, out, hk, rfl, hO, hol, hg, hC⟩ := hrel
    rename World => wr
    obtain ⟨po, co, rfl⟩ := hO.form
    have HK := Lib.hid hk
    have HO := Lib.hid hO
    have HG := Lib.hid hg
    have HC := Lib.hid hC
    have HCW := Lib.hid (HC1.out.step hC)
    have hkl : k ≤ ws.length := by omega
    clear hk hO hg hC
    by_cases hlt : k < ws.length
    · obtain ⟨x, hx⟩ : ∃ x, ws[k]? = some x := ⟨ws[k], by simp [hlt]⟩
      have HD : Hid (ws.drop k = x :: ws.drop (k + 1)) := Lib.hid (by
        obtain ⟨h1, h2⟩ := List.getElem?_eq_some_iff.1 hx
        rw [← h2, List.drop_eq_getElem_cons h1])
      have hxl := HWL.out x (List.mem_of_getElem? hx)
      have x0 := HC.out.cell (HB1.out.cell' (i := k) (v := bsv x) (by rw [List.getElem?_toArray, List.getElem?_map, hx]; rfl)) id
      unfold bsv at x0
      have k0 : (0 : Int) ≤ k := by omega
      have k1 : (k : Int) < ws.length := by omega
      have k2 : (k : Int) ≤ 100001 := by omega
      obtain ⟨m, hm⟩ := (HL.out.chg0 HCW.out).mx
      have HCU := Lib.hid (Tryd.strings_Cut ⟨x.toArray⟩ ⟨#[35]⟩ m wr (by show x.toArray.size < _; simp; omega) hm)
      simp only [bl_data, show (ByteArray.mk #[35]).data.toList = [35] from rfl, cut_H] at HCU
      have HTR := Lib.hid fun w => Tryd.strings_Trim_one ⟨(cutH x).toArray⟩ 32 (by decide) w (by show (cutH x).toArray.size ≤ _; have := cutH_len x; simp; omega)
      simp only [bl_data, trim_S, show trimS (cutH x) = cleanF x from rfl] at HTR
      have hcl := clean_len x
      have HLI := Lib.hid fun (w' : World) (c : Chg NoB wr w') => line_any (cleanF x) w' (by omega) (HL.out.chg0 (HCW.out.step c))
      have q := bsB (cleanF x)
      have HX := Lib.hid hx
      clear hx hm hxl hcl
      cases hq : decide (cleanF x = [])
      · rw [hq] at q
        have HNE := Lib.hid (of_decide_eq_false hq)
        clear hq
        go_wp2_with fail
        with_reducible refine HCU.out.mono ?_
        rintro e w2 ⟨rfl, nd, hw2⟩
        subst hw2
        go_wp2_with fail
        with_reducible refine (HTR.out _).mono ?_
        rintro e w3 ⟨rfl, hw3⟩
        have HC3 : Hid (Chg NoB wr w3) := Lib.hid (by
          rcases hw3 with h | h
          · rw [h]; exact (Chg.refl _ _).drewN _
          · rw [h]; exact ((Chg.refl _ _).drewN _).drew)
        clear hw3
        have H4 := Lib.hid (HLI.out w3 HC3.out)
        go_wp2_with fail
        with_reducible refine H4.out.mono ?_
        rintro e w4 ⟨v4, rfl, C4, hcase⟩
        have HC4 := Lib.hid (HC3.out.step C4)
        clear C4
        rcases hcase with ⟨hn, rfl⟩ | ⟨a, n, q4, hn, rfl, hn1, hn0, hO4⟩
        · have HN := Lib.hid hn
          clear hn
          have HF : Hid (parseF s = ([], k + 1, false)) := Lib.hid (by rw [HG.out, HD.out, parseG_bad HNE.out (.inl HN.out)])
          go_wp2_with fail
          go_ret3
          exact ⟨_, rfl, HCW.out.step HC4.out, _, _, _, _, HF.out, rfl, ⟨NoB, Sl.nil _ _ _⟩, by simp⟩
        · obtain ⟨p4, c4, rfl⟩ := hO4.form
          have HN := Lib.hid hn
          have HO4 := Lib.hid hO4
          have ho2 : (out.length : Int) ≤ 100000 := by omega
          clear hn hO4
          by_cases hbig : 100000 < out.length + n
          · have t0 : decide (100000 - (out.length : Int) < n) = true := by simp; omega
            have HF : Hid (parseF s = ([], k + 1, false)) := Lib.hid (by rw [HG.out, HD.out, parseG_bad HNE.out (.inr ⟨a, n, HN.out, hbig⟩)])
            go_wp2_with fail
            go_ret3
            exact ⟨_, rfl, HCW.out.step HC4.out, _, _, _, _, HF.out, rfl, ⟨NoB, Sl.nil _ _ _⟩, by simp⟩
          · have t0 : decide (100000 - (out.length : Int) < n) = false := by simp; omega
            have HON := Lib.hid (parseG_on (ls := ws.drop (k + 1)) (i := k) HNE.out HN.out (by omega : out.length + n ≤ 100000))
            have HLE : Hid (out.length + n ≤ 100000) := Lib.hid (by omega)
            have OX := HO.out.chg0 HC4.out
            have SX := HO4.out.sl
            have one : ∀ u ∈ alist (List.replicate n a), u.oneCell' = true := alist_one _
            have b1 : out.length + n ≤ maxLen := by unfold maxLen; omega
            have b2 : (out.length + n) * 24 ≤ 140737488355328 := by omega
            clear hbig
            go_wp2_with (at_builtin; go_must (refine wpList_app rfl _ _ 25 rfl i0 _ 24 Tryd.underlying25 hi0 hz0 hz1 hz2 rfl rfl OX _ n _ rfl SX one b1 b2 ?_))
            intro v5 w5 o5 g5 _
            have HO5 : Hid (Own w5 (fun k => (w.alloc (.cells (ws.map bsv).toArray 9)).heap.size ≤ k) 23 3 v5 (out ++ List.replicate n a).length (alist (out ++ List.replicate n a))) := Lib.hid (by
              rw [List.length_append, List.length_replicate, alist_app]
              exact o5.mono fun k hk => by
                rcases hk with hk | hk
                · exact (HO.out.ownBlock k hk).1
                · have h1 := HC.out.size
                  have h2 := HC4.out.size
                  omega)
            have HC5 : Hid (Chg NoB (w.alloc (.cells (ws.map bsv).toArray 9)) w5) := Lib.hid ((HC.out.step HC4.out).trans (grown_chg (S := fun k => (w.alloc (.cells (ws.map bsv).toArray 9)).heap.size ≤ k) g5 fun k hk => (HO.out.ownBlock k hk).1) (fun k h1 h2 => by omega))
            obtain ⟨p5, c5, rfl⟩ := o5.form
            clear SX OX one b1 b2 o5 g5
            go_wp2_with fail
            go_roundg (ws.length - (k + 1))
            case measure => have := HK.out; omega
            case rel => exact ⟨k + 1, out ++ List.replicate n a, by have := HK.out; omega, by go_num, HO5.out, by have := HLE.out; simp; omega, by rw [HG.out, HD.out, HON.out], HC5.out⟩
      · rw [hq] at q
        have HSK := Lib.hid (parseG_skip (ls := ws.drop (k + 1)) (i := k) (out := out) (of_decide_eq_true hq))
        clear hq
        go_wp2_with fail
        with_reducible refine HCU.out.mono ?_
        rintro e w2 ⟨rfl, nd, hw2⟩
        subst hw2
        go_wp2_with fail
        with_reducible refine (HTR.out _).mono ?_
        rintro e w3 ⟨rfl, hw3⟩
        have HC3 : Hid (Chg NoB wr w3) := Lib.hid (by
          rcases hw3 with h | h
          · rw [h]; exact (Chg.refl _ _).drewN _
          · rw [h]; exact ((Chg.refl _ _).drewN _).drew)
        clear hw3
        go_wp2_with fail
        go_roundg (ws.length - (k + 1))
        case measure => have := HK.out; omega
        case rel => exact ⟨k + 1, out, by have := HK.out; omega, by go_num, HO.out.chg0 HC3.out, hol, by rw [HG.out, HD.out, HSK.out], HC.out.step HC3.out⟩
    · obtain rfl : k = ws.length := by omega
      have HF : Hid (parseF s = (out, 0, true)) := Lib.hid (by rw [HG.out, List.drop_length, parseG_end])
      go_wp2_with fail
      go_ret3
      exact ⟨_, rfl, HCW.out, _, _, _, _, HF.out, rfl, ⟨_, HO.out.sl⟩, hol⟩
end Go.Proofs.YtfidiiifcmmffaaDoor
