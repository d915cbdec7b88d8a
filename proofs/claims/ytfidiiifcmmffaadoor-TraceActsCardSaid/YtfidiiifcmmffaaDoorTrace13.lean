/- The words of a line, by the reference. No condition. -/
import Derived.Test.YtfidiiifcmmffaaDoorTrace12
set_option linter.unusedVariables false
set_option linter.unusedSimpArgs false
namespace Go.Proofs.YtfidiiifcmmffaaDoor
open Go.RowKit Go.RR

theorem StrInfo : (Tryd.prog.info? 9).map (fun i => (i.zero, i.size, i.bytes)) = some (some (.string ⟨#[]⟩), 1, 16) := by kernel_rfl
theorem ba_extract (b : ByteArray) (a k : Nat) : Value.string (b.extract a k) = bsv ((b.data.toList.drop a).take (k - a)) := by
  unfold bsv
  congr 1
  apply ByteArray.ext
  apply Array.toList_inj.1
  simp [ByteArray.data_extract, Array.toList_extract]
theorem words_next {l : Bs} {a k : Nat} {c : UInt8} (hak : a ≤ k) (hc : l[k]? = some c) (hno : (32 : UInt8) ∉ (l.drop a).take (k - a)) (h : c = 32) : wordsF 32 (l.drop a) = (l.drop a).take (k - a) :: wordsF 32 (l.drop (k + 1)) := by
  obtain ⟨h1, h2⟩ := List.getElem?_eq_some_iff.1 hc
  have e : l.drop a = (l.drop a).take (k - a) ++ 32 :: l.drop (k + 1) := by
    have h3 : (l.drop a).drop (k - a) = c :: l.drop (k + 1) := by
      rw [List.drop_drop, show a + (k - a) = k by omega, ← h2, List.drop_eq_getElem_cons h1]
    rw [h] at h3
    rw [← h3, List.take_append_drop]
  conv => lhs; rw [e]
  exact words_at hno
theorem no_next {l : Bs} {a k : Nat} {c : UInt8} (hak : a ≤ k) (hc : l[k]? = some c) (hno : (32 : UInt8) ∉ (l.drop a).take (k - a)) (h : c ≠ 32) : (32 : UInt8) ∉ (l.drop a).take (k + 1 - a) := by
  rw [show k + 1 - a = (k - a) + 1 by omega, List.take_add_one, List.getElem?_drop, show a + (k - a) = k by omega, hc, Option.toList_some, List.mem_append, not_or]
  exact ⟨hno, by rw [List.mem_singleton]; exact fun e => h e.symm⟩
theorem byte32 (c : UInt8) : ((c.toNat : Int) == 32) = decide (c = 32) := by
  by_cases h : c = 32
  · rw [h]; rfl
  · rw [decide_eq_false h, beq_eq_false_iff_ne]
    intro e
    exact h (UInt8.toNat_inj.1 (by show c.toNat = 32; omega))
set_option maxHeartbeats 4000000 in
set_option maxRecDepth 100000 in
theorem words_any (b : ByteArray) (w : World) (hl : b.size ≤ 100000) : Calls Tryd.prog 19 #[.string b] w (RetSl fun v w' => Own w' (fun k => w.heap.size ≤ k) 9 1 v (wordsF 32 b.data.toList).length ((wordsF 32 b.data.toList).map bsv) ∧ Chg NoB w w') := by
  obtain ⟨i0, hi0, hz0, hz1, hz2⟩ := info_parts StrInfo
  have hlen := ba_len b
  have HLEN := Lib.hid hlen
  clear hlen
  go_enter Tryd.func19, Tryd.ntmps19
  go_wp2_with fail
  go_loopg [3, 4, 5] (b.size + 1) (fun gk ov av iv wr => ∃ (k a : Nat) (W : List Bs), k + gk = b.size + 1 ∧ av = .int .i64 a ∧ iv = .int .i64 k ∧ Chg NoB w wr ∧ Own wr (fun k => w.heap.size ≤ k) 9 1 ov W.length (W.map bsv) ∧ W.length ≤ k ∧
    ((k ≤ b.size ∧ a ≤ k ∧ wordsF 32 b.data.toList = W ++ wordsF 32 (b.data.toList.drop a) ∧ (32 : UInt8) ∉ (b.data.toList.drop a).take (k - a)) ∨ (k = b.size + 1 ∧ wordsF 32 b.data.toList = W)))
  case atStart => exact ⟨0, 0, [], by omega, rfl, rfl, Chg.refl _ _, Own.nil _ _ _ _, Nat.le_refl _, .inl ⟨by omega, by omega, rfl, by simp⟩⟩
  case round =>
    obtain ⟨k, a, W, hk, rfl, rfl, hC, hO, hW, hcase⟩ := hrel
    rename World => wr
    obtain ⟨po, co, rfl⟩ := hO.form
    have HK := Lib.hid hk
    have HC := Lib.hid hC
    have HO := Lib.hid hO
    have hk0 : (0 : Int) ≤ k := by omega
    clear hk hC hO
    rcases hcase with ⟨h1, h2, h3, h4⟩ | ⟨h1, h3⟩
    · have H3 := Lib.hid h3
      have H4 := Lib.hid h4
      have a0 : (0 : Int) ≤ a := by omega
      have a1 : (a : Int) ≤ k := by omega
      have a2 : (k : Int) ≤ b.size := by omega
      clear h3 h4
      have HW1 := Lib.hid hW
      have k63 : (W.length : Int) + 1 ≤ 9223372036854775807 := by omega
      by_cases hlt : k < b.size
      · have hat := ba_at b k hlt
        have t0 : ((k : Int) == b.size) = false := by rw [beq_eq_false_iff_ne]; omega
        have t1 := byte32 b[k]
        cases hb : decide (b[k] = 32)
        · rw [hb] at t1
          have HN := Lib.hid (no_next h2 hat H4.out (of_decide_eq_false hb))
          clear hat hb
          go_wp2_with fail
          go_roundg (b.size + 1 - (k + 1))
          case measure => have := HK.out; omega
          case rel => exact ⟨k + 1, a, W, by have := HK.out; omega, rfl, by go_num, HC.out, HO.out, by have := HW1.out; omega, .inl ⟨by omega, by omega, H3.out, HN.out⟩⟩
        · rw [hb] at t1
          have HN := Lib.hid (words_next h2 hat H4.out (of_decide_eq_true hb))
          clear hat hb
          have SX : Sl (wr.alloc (.cells #[.string (b.extract a k)] 9)) (fun k => k = wr.heap.size) 1 (.slice (some ⟨wr.heap.size, 0, none⟩) 1 1) 1 [.string (b.extract a k)] := Sl.fresh wr [.string (b.extract a k)] 9 1 rfl
          have OX := HO.out.chg0 ((Chg.refl NoB wr).alloc (.cells #[.string (b.extract a k)] 9))
          have one : ∀ u ∈ [Value.string (b.extract a k)], u.oneCell' = true := by simp [Value.oneCell']
          have b1 : W.length + 1 ≤ maxLen := by have := HW1.out; unfold maxLen; omega
          have b2 : (W.length + 1) * 16 ≤ 140737488355328 := by have := HW1.out; omega
          go_wp2_with (at_builtin; go_must (refine wpList_app rfl _ _ 43 rfl i0 _ 16 Tryd.underlying43 hi0 hz0 hz1 hz2 rfl rfl OX _ 1 _ rfl SX one b1 b2 ?_))
          intro v2 w2 o2 g2 _
          have HO2 : Hid (Own w2 (fun k => w.heap.size ≤ k) 9 1 v2 (W ++ [(b.data.toList.drop a).take (k - a)]).length ((W ++ [(b.data.toList.drop a).take (k - a)]).map bsv)) := Lib.hid (by
            rw [ba_extract] at o2
            rw [List.length_append, List.map_append]
            exact o2.mono fun k hk => by
              rcases hk with hk | hk
              · exact (HO.out.ownBlock k hk).1
              · subst hk; have := HC.out.size; show w.heap.size ≤ wr.heap.size + 1; omega)
          have HC2 : Hid (Chg NoB w w2) := Lib.hid ((HC.out.alloc (.cells #[.string (b.extract a k)] 9)).trans (grown_chg (S := fun k => w.heap.size ≤ k) g2 fun k hk => (HO.out.ownBlock k hk).1) (fun k h1 h2 => by omega))
          obtain ⟨p2, c2, rfl⟩ := o2.form
          clear SX OX one b1 b2 o2 g2
          go_wp2_with fail
          go_roundg (b.size + 1 - (k + 1))
          case measure => have := HK.out; omega
          case rel => exact ⟨k + 1, k + 1, W ++ [(b.data.toList.drop a).take (k - a)], by have := HK.out; omega, by go_num, by go_num, HC2.out, HO2.out, by have := HW1.out; simp; omega, .inl ⟨by omega, Nat.le_refl _, by rw [H3.out, HN.out]; simp, by simp⟩⟩
      · obtain rfl : k = b.size := by omega
        have t0 : ((b.size : Int) == b.size) = true := by simp
        have hend : wordsF 32 (b.data.toList.drop a) = [(b.data.toList.drop a).take (b.size - a)] := by
          have e : (b.data.toList.drop a).take (b.size - a) = b.data.toList.drop a := List.take_of_length_le (by rw [List.length_drop, HLEN.out]; exact Nat.le_refl _)
          rw [e]
          exact words_no (by have := H4.out; rwa [e] at this)
        have HN := Lib.hid hend
        clear hend
        have SX : Sl (wr.alloc (.cells #[.string (b.extract a b.size)] 9)) (fun k => k = wr.heap.size) 1 (.slice (some ⟨wr.heap.size, 0, none⟩) 1 1) 1 [.string (b.extract a b.size)] := Sl.fresh wr [.string (b.extract a b.size)] 9 1 rfl
        have OX := HO.out.chg0 ((Chg.refl NoB wr).alloc (.cells #[.string (b.extract a b.size)] 9))
        have one : ∀ u ∈ [Value.string (b.extract a b.size)], u.oneCell' = true := by simp [Value.oneCell']
        have b1 : W.length + 1 ≤ maxLen := by have := HW1.out; unfold maxLen; omega
        have b2 : (W.length + 1) * 16 ≤ 140737488355328 := by have := HW1.out; omega
        go_wp2_with (at_builtin; go_must (refine wpList_app rfl _ _ 43 rfl i0 _ 16 Tryd.underlying43 hi0 hz0 hz1 hz2 rfl rfl OX _ 1 _ rfl SX one b1 b2 ?_))
        intro v2 w2 o2 g2 _
        have HO2 : Hid (Own w2 (fun k => w.heap.size ≤ k) 9 1 v2 (W ++ [(b.data.toList.drop a).take (b.size - a)]).length ((W ++ [(b.data.toList.drop a).take (b.size - a)]).map bsv)) := Lib.hid (by
          rw [ba_extract] at o2
          rw [List.length_append, List.map_append]
          exact o2.mono fun k hk => by
            rcases hk with hk | hk
            · exact (HO.out.ownBlock k hk).1
            · subst hk; have := HC.out.size; show w.heap.size ≤ wr.heap.size + 1; omega)
        have HC2 : Hid (Chg NoB w w2) := Lib.hid ((HC.out.alloc (.cells #[.string (b.extract a b.size)] 9)).trans (grown_chg (S := fun k => w.heap.size ≤ k) g2 fun k hk => (HO.out.ownBlock k hk).1) (fun k h1 h2 => by omega))
        obtain ⟨p2, c2, rfl⟩ := o2.form
        clear SX OX one b1 b2 o2 g2
        go_wp2_with fail
        go_roundg (b.size + 1 - (b.size + 1))
        case measure => have := HK.out; omega
        case rel => exact ⟨b.size + 1, b.size + 1, W ++ [(b.data.toList.drop a).take (b.size - a)], by have := HK.out; omega, by go_num, by go_num, HC2.out, HO2.out, by have := HW1.out; simp; omega, .inr ⟨rfl, by rw [H3.out, HN.out]⟩⟩
    · subst h1
      subst h3
      have t2 : decide (((b.size + 1 : Nat) : Int) ≤ b.size) = false := by simp; omega
      go_wp2_with fail
      go_ret
      exact ⟨_, rfl, HO.out, HC.out⟩
end Go.Proofs.YtfidiiifcmmffaaDoor
