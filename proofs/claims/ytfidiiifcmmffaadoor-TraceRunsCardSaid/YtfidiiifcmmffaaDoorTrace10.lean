/- A line, by the program. No condition. -/
import Derived.Test.YtfidiiifcmmffaaDoorTrace8
import Derived.Test.YtfidiiifcmmffaaDoorTrace5
import Derived.Test.YtfidiiifcmmffaaDoorTrace9
import Derived.Lib.SplitLaws
set_option linter.unusedVariables false
set_option linter.unusedSimpArgs false
namespace Go.Proofs.YtfidiiifcmmffaaDoor
open Go.RowKit Go.RR

theorem cell_bsv (l : List ByteArray) : l.map Value.string = (l.map (·.data.toList)).map bsv := by
  rw [List.map_map]
  exact List.map_congr_left fun b _ => congrArg Value.string (ba_list b)
theorem split_cells (c : UInt8) (s : Bs) : (Go.Lib.splitB ⟨#[c]⟩ 0 (Go.Lib.countB ⟨s.toArray⟩ ⟨#[c]⟩) ⟨s.toArray⟩).map Value.string = (wordsF c s).map bsv := by
  rw [cell_bsv, Go.Lib.splitB_data]
  exact congrArg (List.map bsv) (split_words s)
theorem split_count (c : UInt8) (s : Bs) : Go.Lib.countB ⟨s.toArray⟩ ⟨#[c]⟩ + 1 = (wordsF c s).length := by
  rw [words_len, ← count_words]
/-- How times answers of these words. -/
theorem times_of {ws : List Bs} {m g c : Nat} (hm : ws.length = m + 1) : ∃ (n : Int) (y : Bs) (ys : List Bs), timesV g 0 m c (ws.getLastD []) = .tuple #[.int .i64 n, .slice (some ⟨g, 0, none⟩) (ys.length + 1) c] ∧ ys.length ≤ m ∧ ws.take (ys.length + 1) = y :: ys ∧
    ((n = 0 ∧ timesF ws = none) ∨ (1 ≤ n ∧ n ≤ 100000 ∧ timesF ws = some (n.toNat, y :: ys))) := by
  obtain ⟨y, ys, rfl⟩ : ∃ y ys, ws = y :: ys := by cases ws with
    | nil => simp at hm
    | cons y ys => exact ⟨y, ys, rfl⟩
  simp only [List.length_cons] at hm
  obtain rfl : m = ys.length := by omega
  unfold timesV timesF
  by_cases h : 1 ≤ ys.length ∧ ((y :: ys).getLastD []).head? = some 120
  · rw [if_pos h, if_pos ⟨by simp only [List.length_cons]; omega, h.2⟩]
    cases hq : numF (((y :: ys).getLastD []).drop 1) with
    | none => exact ⟨0, y, ys, rfl, Nat.le_refl _, by simp, .inl ⟨rfl, rfl⟩⟩
    | some n =>
      simp only
      by_cases h2 : n < 2 ∨ 100000 < n
      · rw [if_pos h2, if_pos h2]
        exact ⟨0, y, ys, rfl, Nat.le_refl _, by simp, .inl ⟨rfl, rfl⟩⟩
      · rw [if_neg h2, if_neg h2]
        obtain ⟨z, zs, rfl⟩ : ∃ z zs, ys = z :: zs := by cases ys with
          | nil => simp at h
          | cons z zs => exact ⟨z, zs, rfl⟩
        have hd : (y :: z :: zs).dropLast = y :: (z :: zs).dropLast := rfl
        have hl : ((z :: zs).dropLast).length = zs.length := by rw [List.length_dropLast]; rfl
        refine ⟨n, y, (z :: zs).dropLast, by rw [hl]; rfl, by rw [hl]; simp, ?_, .inr ⟨by omega, by omega, rfl⟩⟩
        rw [hl, ← hd, List.dropLast_eq_take]
        rfl
  · rw [if_neg h, if_neg (fun h2 => h ⟨by have := h2.1; simp only [List.length_cons] at this; omega, h2.2⟩)]
    exact ⟨1, y, ys, rfl, Nat.le_refl _, by simp, .inr ⟨by omega, by omega, rfl⟩⟩
def acells (a : Ac) : List Value := [.int .i64 a.1, .int .i64 a.2.1, .int .i64 a.2.2]
def alist (l : List Ac) : List Value := (l.map acells).flatten
theorem alist_len : ∀ l : List Ac, (alist l).length = l.length * 3
  | [] => rfl
  | a :: l => by
    show (acells a ++ alist l).length = _
    rw [List.length_append, alist_len l, List.length_cons]
    show 3 + l.length * 3 = _
    omega
theorem alist_app (l m : List Ac) : alist (l ++ m) = alist l ++ alist m := by unfold alist; rw [List.map_append, List.flatten_append]
theorem alist_rep (n : Nat) (a : Ac) : alist (List.replicate (n + 1) a) = alist (List.replicate n a) ++ acells a := by
  rw [List.replicate_succ', alist_app]
  congr 1
theorem fill3 {cur : Array Value} {l : List Value} {i : Nat} (x y z : Value) (hl : l.length = i * 3) (h : ∀ (j : Nat) (u : Value), l[j]? = some u → cur[j]? = some u) (hs : i * 3 + 3 ≤ cur.size) :
    ∀ (j : Nat) (u : Value), (l ++ [x, y, z])[j]? = some u → (((cur.setIfInBounds (i * 3) x).setIfInBounds (i * 3 + 1) y).setIfInBounds (i * 3 + 2) z)[j]? = some u := by
  intro j u hj
  rw [List.getElem?_append] at hj
  split at hj
  · rename_i hlt
    rw [Array.getElem?_setIfInBounds_ne (by omega), Array.getElem?_setIfInBounds_ne (by omega), Array.getElem?_setIfInBounds_ne (by omega)]
    exact h j u hj
  · rename_i hge
    obtain ⟨r, hr⟩ : ∃ r, j = i * 3 + r := ⟨j - i * 3, by omega⟩
    subst hr
    rw [hl, Nat.add_sub_cancel_left] at hj
    match r, hj with
    | 0, hj =>
      simp only [List.getElem?_cons_zero, Option.some.injEq] at hj
      rw [Array.getElem?_setIfInBounds_ne (by omega), Array.getElem?_setIfInBounds_ne (by omega), Nat.add_zero, Array.getElem?_setIfInBounds_self_of_lt (by omega), hj]
    | 1, hj =>
      simp only [List.getElem?_cons_succ, List.getElem?_cons_zero, Option.some.injEq] at hj
      rw [Array.getElem?_setIfInBounds_ne (by omega), Array.getElem?_setIfInBounds_self_of_lt (by simp; omega), hj]
    | 2, hj =>
      simp only [List.getElem?_cons_succ, List.getElem?_cons_zero, Option.some.injEq] at hj
      rw [Array.getElem?_setIfInBounds_self_of_lt (by simp; omega), hj]
    | r + 3, hj => simp at hj
theorem join_part : ∀ {ws : List Bs} {x : Bs} {c : UInt8}, x ∈ ws → x.length ≤ (Go.Lib.join ws [c]).length
  | [], x, c, h => by cases h
  | [y], x, c, h => by rw [List.mem_singleton.1 h, Go.Lib.join_one]; exact Nat.le_refl _
  | y :: z :: zs, x, c, h => by
    have e : Go.Lib.join (y :: z :: zs) [c] = y ++ c :: Go.Lib.join (z :: zs) [c] := by
      rw [Go.Lib.join_cons, Go.Lib.join_cons]
      show y ++ (([c] ++ z) ++ Go.Lib.joinTail [c] zs) = _
      simp
    rw [e, List.length_append, List.length_cons]
    rcases List.mem_cons.1 h with h | h
    · rw [h]; omega
    · have := join_part (c := c) h; omega
theorem word_len {s x : Bs} {c : UInt8} (h : x ∈ wordsF c s) {n : Nat} (hl : s.length ≤ n) : x.length ≤ n := by
  have := join_part (c := c) h
  rw [words_join] at this
  omega
theorem last_at {ws : List Bs} {m : Nat} (h : ws.length = m + 1) : ws[m]? = some (ws.getLastD []) := by
  rw [List.getLastD_eq_getLast?, List.getLast?_eq_getElem?, h, Nat.add_sub_cancel, List.getElem?_eq_getElem (by omega)]
  rfl
theorem ActInfo : (Tryd.prog.info? 23).map (fun i => (i.zero, i.size, i.bytes)) = some (some (.agg #[.int .i64 0, .int .i64 0, .int .i64 0]), 3, 24) := by kernel_rfl
theorem made_size (z : Array Value) (n : Nat) : (madeCells z n).size = n := by unfold madeCells; simp
theorem lineF_of {s : Bs} {m : Nat} (hm : timesF (wordsF 32 s) = none) : lineF s = none := by unfold lineF; rw [hm]
theorem lineF_none {s : Bs} {n : Nat} {ws : List Bs} (hm : timesF (wordsF 32 s) = some (n, ws)) (h : actW ws = none) : lineF s = none := by unfold lineF; rw [hm]; simp only [h]
theorem lineF_some {s : Bs} {n : Nat} {ws : List Bs} {a : Ac} (hm : timesF (wordsF 32 s) = some (n, ws)) (h : actW ws = some a) : lineF s = some (a, n) := by unfold lineF; rw [hm]; simp only [h]
/-- What Line answers. -/
def LineR (w : World) (s : Bs) (v : Value) (w' : World) : Prop := Chg NoB w w' ∧
  ((lineF s = none ∧ v = .tuple #[.slice none 0 0, .bool false]) ∨
    ∃ a n q, lineF s = some (a, n) ∧ v = .tuple #[q, .bool true] ∧ n ≤ 100000 ∧ 1 ≤ n ∧ Own w' (fun k => w.heap.size ≤ k) 23 3 q n (alist (List.replicate n a)))
set_option maxHeartbeats 4000000 in
set_option maxRecDepth 100000 in
theorem line_any (s : Bs) (w : World) (hl : s.length ≤ 100000) (L : Lb w) :
    Calls Tryd.prog 7 #[.string ⟨s.toArray⟩] w (RetV (LineR w s)) := by
  obtain ⟨i0, hi0, hz0, hz1, hz2⟩ := info_parts ActInfo
  obtain ⟨m, hm⟩ := L.mx
  have hL0 := split_count 32 s
  have hC0 := split_cells 32 s
  have H0 := Lib.hid (Tryd.strings_Split ⟨s.toArray⟩ ⟨#[32]⟩ m w (by show s.toArray.size < _; simp; omega) hm (by decide))
  rw [hC0] at H0
  obtain ⟨k, hk⟩ : ∃ k, Go.Lib.countB ⟨s.toArray⟩ ⟨#[32]⟩ = k := ⟨_, rfl⟩
  rw [hk] at H0 hL0
  have HK := Lib.hid hL0
  have hkl : k ≤ 100000 := by
    have h1 := words_len (c := 32) s
    have h2 := List.count_le_length (a := (32 : UInt8)) (l := s)
    omega
  have HL := Lib.hid L
  clear hL0 hC0 hk hm
  go_enter Tryd.func7, Tryd.ntmps7
  go_wp2_with fail
  with_reducible refine H0.out.mono ?_
  rintro e w1 ⟨rfl, rfl⟩
  have HC1 := Lib.hid ((Chg.refl NoB w).alloc (.cells ((wordsF 32 s).map bsv).toArray 9))
  have HB1 := Lib.hid (Blk.new w ((wordsF 32 s).map bsv).toArray 9)
  have hne : (wordsF 32 s) ≠ [] := by
    intro h
    have := HK.out
    rw [h] at this
    simp at this
  have hlast0 := last_at HK.out.symm
  have hlast : ((wordsF 32 s).getLastD []) ∈ wordsF 32 s := List.mem_of_getElem? hlast0
  have hl1 : ((wordsF 32 s).getLastD []).length ≤ 100000 := word_len hlast hl
  have hc1 : (w.alloc (.cells ((wordsF 32 s).map bsv).toArray 9)).cell? ⟨w.heap.size, 0 + k, none⟩ = some (bsv ((wordsF 32 s).getLastD [])) := by
    refine HB1.out.cell' ?_
    rw [Nat.zero_add, List.getElem?_toArray, List.getElem?_map]
    rw [hlast0]; rfl
  obtain ⟨n, y, ys, e, hyl, hyt, hn⟩ := times_of (ws := wordsF 32 s) (m := k) (g := w.heap.size) (c := k + 1) HK.out.symm
  have H1 := Lib.hid (times_any w.heap.size 0 k (k + 1) ((wordsF 32 s).getLastD []) (w.alloc (.cells ((wordsF 32 s).map bsv).toArray 9)) (Nat.le_refl _) hkl (by simp) hc1 hl1 (HL.out.chg0 HC1.out))
  rw [e] at H1
  have HT := Lib.hid hyt
  have HN := Lib.hid hn
  clear hyt hn e
  go_wp2_with fail
  with_reducible refine H1.out.mono ?_
  rintro e w2 ⟨rfl, C2⟩
  have HC2 := Lib.hid (HC1.out.step C2)
  have HB2 := Lib.hid (C2.blk0 HB1.out)
  clear C2
  have hsl : Sl w2 (fun _ => True) 1 (.slice (some ⟨w.heap.size, 0, none⟩) (ys.length + 1) (k + 1)) (ys.length + 1) (bsv y :: ys.map bsv) := by
    refine Sl.of (by simp) (by omega) trivial HB2.out.lt fun j u hu => HB2.out.cell' ?_
    rw [Nat.zero_add, List.getElem?_toArray, List.getElem?_map]
    have hj : (y :: ys)[j]? = (wordsF 32 s)[j]? := by
      rw [← HT.out, List.getElem?_take]
      have := (List.getElem?_eq_some_iff.1 hu).1
      simp at this
      rw [if_pos (by omega)]
    rw [← hj]
    rw [← List.map_cons, List.getElem?_map] at hu
    exact hu
  have hyw : ∀ x ∈ ys, x.length ≤ 100000 := fun x hx => word_len (c := 32) (s := s) (List.mem_of_mem_take (i := ys.length + 1) (by rw [HT.out]; exact List.mem_cons_of_mem _ hx)) hl
  have H2 := Lib.hid (act_any _ _ y ys w2 hsl (by omega) hyw (HL.out.chg0 HC2.out))
  clear hyw
  unfold actV at H2
  clear hsl
  go_wp2_with fail
  with_reducible refine H2.out.mono ?_
  rintro e w3 ⟨rfl, C3⟩
  have HC3 := Lib.hid (HC2.out.step C3)
  clear C3
  rcases HN.out with ⟨rfl, ht⟩ | ⟨hn1, hn2, ht⟩
  · have HF := Lib.hid (lineF_of (m := 0) ht)
    cases hq : actW (y :: ys) with
    | none =>
      unfold actOf zact
      clear ht hq
      go_wp2_with fail
      go_ret2
      exact ⟨_, rfl, HC3.out.alloc _, .inl ⟨HF.out, rfl⟩⟩
    | some a =>
      obtain ⟨ka, a1, a2⟩ := a
      unfold actOf
      clear ht hq
      go_wp2_with fail
      go_ret2
      exact ⟨_, rfl, HC3.out.alloc _, .inl ⟨HF.out, rfl⟩⟩
  · obtain ⟨N, rfl⟩ : ∃ N : Nat, n = N := ⟨n.toNat, by omega⟩
    have n0 : ((N : Int) == 0) = false := by rw [beq_eq_false_iff_ne]; omega
    cases hq : actW (y :: ys) with
    | none =>
      have HF := Lib.hid (lineF_none ht hq)
      unfold actOf zact
      clear ht hq
      go_wp2_with fail
      go_ret2
      exact ⟨_, rfl, HC3.out.alloc _, .inl ⟨HF.out, rfl⟩⟩
    | some a =>
      have HF := Lib.hid (lineF_some ht hq)
      rw [Int.toNat_natCast] at HF
      obtain ⟨ka, a1, a2⟩ := a
      have hmk : ∀ W, (Instr.makeSlice 25 (.int .i64 N) (.int .i64 N)).run Tryd.prog W = .ok (.slice (some ⟨W.heap.size, 0, none⟩) N N) (W.alloc (.cells (madeCells #[.int .i64 0, .int .i64 0, .int .i64 0] (N * 3)) 23)) := by
        intro W
        have h := run_make (P := Tryd.prog) W 25 23 i0 _ Tryd.underlying25 hi0 hz0 .i64 .i64 N N (by omega) (by omega) (by rw [hz2]; omega) (by omega)
        rw [hz1, Int.toNat_natCast] at h
        exact h
      unfold actOf
      clear ht hq
      go_wp2_with fail
      have HM := Lib.hid (Blk.new (w3.alloc (.cells #[.int .i64 ka, .int .i64 a1, .int .i64 a2] 23)) (madeCells #[.int .i64 0, .int .i64 0, .int .i64 0] (N * 3)) 23)
      have HA := Lib.hid ((Blk.new w3 #[.int .i64 ka, .int .i64 a1, .int .i64 a2] 23).alloc (.cells (madeCells #[.int .i64 0, .int .i64 0, .int .i64 0] (N * 3)) 23))
      have HC4 := Lib.hid ((HC3.out.alloc (.cells #[.int .i64 ka, .int .i64 a1, .int .i64 a2] 23)).alloc (.cells (madeCells #[.int .i64 0, .int .i64 0, .int .i64 0] (N * 3)) 23))
      have hgt : w.heap.size ≤ w3.heap.size := HC3.out.size
      go_loopg [31, 9] N (fun gm jx _ wi => ∃ (i : Nat) (cur : Array Value), i + gm = N ∧ jx = .int .i64 i ∧ Chg NoB w wi ∧ Blk wi w3.heap.size #[.int .i64 ka, .int .i64 a1, .int .i64 a2] 23 ∧ Blk wi (w3.heap.size + 1) cur 23 ∧ cur.size = N * 3 ∧ ∀ (j : Nat) (u : Value), (alist (List.replicate i (ka, a1, a2)))[j]? = some u → cur[j]? = some u)
      case atStart => exact ⟨0, _, by omega, rfl, HC4.out, HA.out, by simpa using HM.out, made_size _ _, fun j u h => by simp [alist] at h⟩
      case round =>
        obtain ⟨i, cur, hi, rfl, hC, hA, hB, hsz, hcur⟩ := hrel
        rename World => wi
        have HI := Lib.hid hi
        have HCi := Lib.hid hC
        have HAi := Lib.hid hA
        have HBi := Lib.hid hB
        have HSZ := Lib.hid hsz
        have HCU := Lib.hid hcur
        have hil : i ≤ N := by omega
        clear hi hC hA hB hcur
        by_cases hlt : i < N
        · have i0 : (0 : Int) ≤ i := by omega
          have i1 : (i : Int) < N := by omega
          have x0 := HAi.out.cell' (i := 0) (v := .int .i64 ka) rfl
          have x1 := HAi.out.cell' (i := 1) (v := .int .i64 a1) rfl
          have x2 := HAi.out.cell' (i := 2) (v := .int .i64 a2) rfl
          obtain ⟨c0, e0⟩ : ∃ c, cur[i * 3]? = some c := ⟨_, Array.getElem?_eq_getElem (by omega)⟩
          have y0 := HBi.out.cell' e0
          obtain ⟨c1, e1⟩ : ∃ c, cur[i * 3 + 1]? = some c := ⟨_, Array.getElem?_eq_getElem (by omega)⟩
          have y1 := HBi.out.cell' e1
          obtain ⟨c2, e2⟩ : ∃ c, cur[i * 3 + 2]? = some c := ⟨_, Array.getElem?_eq_getElem (by omega)⟩
          have y2 := HBi.out.cell' e2
          have yf := fun j => HBi.out.frozen j
          clear hsz e0 e1 e2
          go_wp2_with fail
          go_roundg (N - (i + 1))
          case measure => have := HI.out; omega
          case rel => exact ⟨i + 1, _, by have := HI.out; omega, by go_num, ((HCi.out.setCell (.inr (by show w.heap.size ≤ w3.heap.size + 1; omega)) _).setCell (.inr (by show w.heap.size ≤ w3.heap.size + 1; omega)) _).setCell (.inr (by show w.heap.size ≤ w3.heap.size + 1; omega)) _, ((HAi.out.set_ne (by simp) _).set_ne (by simp) _).set_ne (by simp) _, ((HBi.out.set _ _).set _ _).set _ _, by simp [HSZ.out], by rw [alist_rep]; exact fill3 _ _ _ (by rw [alist_len, List.length_replicate]) HCU.out (by rw [HSZ.out]; omega)⟩
        · obtain rfl : i = N := by omega
          have HO : Hid (Own wi (fun k => w.heap.size ≤ k) 23 3 (.slice (some ⟨w3.heap.size + 1, 0, none⟩) i i) i (alist (List.replicate i (ka, a1, a2)))) := Lib.hid
            ⟨by rw [alist_len, List.length_replicate], .inr ⟨w3.heap.size + 1, 0, i, cur, rfl, by omega, HBi.out, Nat.le_refl _, by unfold maxLen; omega, by rw [hsz]; omega, fun j u hu => by rw [Nat.zero_add]; exact HCU.out j u hu⟩⟩
          clear hsz
          go_wp2_with fail
          go_ret2
          exact ⟨_, rfl, HCi.out, .inr ⟨_, _, _, HF.out, rfl, by omega, by omega, HO.out⟩⟩
end Go.Proofs.YtfidiiifcmmffaaDoor
