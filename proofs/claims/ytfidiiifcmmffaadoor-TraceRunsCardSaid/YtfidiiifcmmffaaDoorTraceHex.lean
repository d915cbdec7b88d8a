/- The digits of 0x40a. No condition. -/
import Derived.Test.YtfidiiifcmmffaaDoorTrace3
import Derived.Test.YtfidiiifcmmffaaDoorStr
set_option linter.unusedVariables false
set_option linter.unusedSimpArgs false
namespace Go.Proofs.YtfidiiifcmmffaaDoor
open Go.RowKit Go.RR

set_option maxHeartbeats 4000000 in
set_option maxRecDepth 100000 in
theorem tz64 (w : World) (L : Lb w) : Calls Tryd.prog 94 #[.int .u64 16] w (RetW (.int .i64 4) fun w' => w' = w) := by
  have x0 := L.tz
  have e : IntKind.u64.wrap (bits BinOp.and IntKind.u64 16 (IntKind.u64.wrap (-16)) * 285870213051353865) / 288230376151711744 = 15 := by decide +kernel
  clear L
  go_enter Tryd.func94, Tryd.ntmps94
  go_wp2_with fail
  go_ret
  exact ⟨rfl, rfl⟩
set_option maxHeartbeats 4000000 in
set_option maxRecDepth 100000 in
theorem tz (w : World) (L : Lb w) : Calls Tryd.prog 83 #[.int .u64 16] w (RetW (.int .i64 4) fun w' => w' = w) := by
  have H := Lib.hid (tz64 w L)
  clear L
  go_enter Tryd.func83, Tryd.ntmps83
  go_wp2_with fail
  with_reducible refine H.out.mono ?_
  rintro e w1 ⟨rfl, rfl⟩
  go_wp2_with fail
  go_ret
  exact ⟨rfl, rfl⟩
set_option maxHeartbeats 4000000 in
set_option maxRecDepth 100000 in
theorem pow16 (w : World) : Calls Tryd.prog 82 #[.int .i64 16] w (RetW (.bool true) fun w' => w' = w) := by
  have e : bits BinOp.and IntKind.i64 16 15 = 0 := by decide +kernel
  go_enter Tryd.func82, Tryd.ntmps82
  go_wp2_with fail
  go_ret
  exact ⟨rfl, rfl⟩
set_option maxHeartbeats 4000000 in
set_option maxRecDepth 100000 in
theorem bits16 (w : World) (L : Lb w) : Calls Tryd.prog 64 #[.slice none 0 0, .int .u64 1034, .int .i64 16, .bool false, .bool false] w (RetW (.tuple #[.slice none 0 0, .string ⟨#[52, 48, 97]⟩]) fun w' => Chg NoB w w') := by
  have HP := Lib.hid fun w => pow16 w
  have HL := Lib.hid L
  clear L
  go_enter Tryd.func64, Tryd.ntmps64
  go_wp2_with fail
  with_reducible refine (HP.out _).mono ?_
  rintro e w1 ⟨rfl, rfl⟩
  go_wp2_with fail
  with_reducible refine (tz _ (HL.out.chg0 ((Chg.refl NoB w).alloc (.cells Tryd.zeroCells112 112)))).mono ?_
  rintro e w2 ⟨rfl, hw2⟩
  subst hw2
  go_wp2_with fail
  have HZ := Lib.hid (Blk.new w Tryd.zeroCells112 112)
  have HC := Lib.hid ((Chg.refl NoB w).alloc (.cells Tryd.zeroCells112 112))
  have hz : Tryd.zeroCells112.size = 65 := by kernel_rfl
  have HSZ := Lib.hid hz
  clear hz
  go_loopg [1, 13] 2 (fun gk uv iv wr => ∃ cur, Chg NoB w wr ∧ Blk wr w.heap.size cur 112 ∧ cur.size = 65 ∧ ((gk = 2 ∧ uv = .int .u64 1034 ∧ iv = .int .i64 65) ∨ (gk = 1 ∧ uv = .int .u64 64 ∧ iv = .int .i64 64 ∧ cur[64]? = some (.int .u8 97)) ∨ (gk = 0 ∧ uv = .int .u64 4 ∧ iv = .int .i64 63 ∧ cur[64]? = some (.int .u8 97) ∧ cur[63]? = some (.int .u8 48))))
  case atStart => exact ⟨_, HC.out, HZ.out, HSZ.out, .inl ⟨rfl, rfl, rfl⟩⟩
  case round =>
    obtain ⟨cur, hC, hB, hs, hcase⟩ := hrel
    rename World => wr
    have HCr := Lib.hid hC
    have HB := Lib.hid hB
    have HS := Lib.hid hs
    obtain ⟨c0, e0⟩ : ∃ c, cur[64]? = some c := ⟨_, Array.getElem?_eq_getElem (by omega)⟩
    obtain ⟨c1, e1⟩ : ∃ c, cur[63]? = some c := ⟨_, Array.getElem?_eq_getElem (by omega)⟩
    obtain ⟨c2, e2⟩ : ∃ c, cur[62]? = some c := ⟨_, Array.getElem?_eq_getElem (by omega)⟩
    have y0 := HB.out.cell' e0
    have y1 := HB.out.cell' e1
    have y2 := HB.out.cell' e2
    have yf := fun i => HB.out.frozen i
    clear hC hB hs e0 e1 e2
    have b0 : bits BinOp.and IntKind.u64 1034 15 = 10 := by decide +kernel
    have b1 : bits BinOp.and IntKind.u64 64 15 = 0 := by decide +kernel
    have d10 : ((⟨#[48, 49, 50, 51, 52, 53, 54, 55, 56, 57, 97, 98, 99, 100, 101, 102, 103, 104, 105, 106, 107, 108, 109, 110, 111, 112, 113, 114, 115, 116, 117, 118, 119, 120, 121, 122]⟩ : ByteArray)[10].toNat : Int) = 97 := by decide +kernel
    have d0 : ((⟨#[48, 49, 50, 51, 52, 53, 54, 55, 56, 57, 97, 98, 99, 100, 101, 102, 103, 104, 105, 106, 107, 108, 109, 110, 111, 112, 113, 114, 115, 116, 117, 118, 119, 120, 121, 122]⟩ : ByteArray)[0].toNat : Int) = 48 := by decide +kernel
    have d4 : ((⟨#[48, 49, 50, 51, 52, 53, 54, 55, 56, 57, 97, 98, 99, 100, 101, 102, 103, 104, 105, 106, 107, 108, 109, 110, 111, 112, 113, 114, 115, 116, 117, 118, 119, 120, 121, 122]⟩ : ByteArray)[4].toNat : Int) = 52 := by decide +kernel
    rcases hcase with ⟨rfl, rfl, rfl⟩ | ⟨rfl, rfl, rfl, h64⟩ | ⟨rfl, rfl, rfl, h64, h63⟩
    · go_wp2_with fail
      go_roundg 1
      case measure => omega
      case rel => exact ⟨_, HCr.out.setCell (.inr (Nat.le_refl _)) _, HB.out.set _ _, by simp [HS.out], .inr (.inl ⟨rfl, rfl, rfl, by simp [HS.out]⟩)⟩
    · have H64 := Lib.hid h64
      clear h64
      go_wp2_with fail
      go_roundg 0
      case measure => omega
      case rel => exact ⟨_, HCr.out.setCell (.inr (Nat.le_refl _)) _, HB.out.set _ _, by simp [HS.out], .inr (.inr ⟨rfl, rfl, rfl, by rw [Array.getElem?_setIfInBounds_ne (by decide)]; exact H64.out, by simp [HS.out]⟩)⟩
    · have HSL : Hid (Sl (wr.setCell ⟨w.heap.size, 62, none⟩ (.int .u8 52)) (fun _ => True) 1 (.slice (some ⟨w.heap.size, 62, none⟩) 3 3) 3 [.int .u8 52, .int .u8 48, .int .u8 97]) := Lib.hid (by
        have hb := HB.out.set 62 (.int .u8 52)
        refine Sl.of rfl (Nat.le_refl _) trivial hb.lt fun j u hu => hb.cell' ?_
        match j, hu with
        | 0, hu => cases hu; rw [Array.getElem?_setIfInBounds_self_of_lt (by rw [HS.out]; decide)]
        | 1, hu => cases hu; rw [Array.getElem?_setIfInBounds_ne (by decide)]; exact h63
        | 2, hu => cases hu; rw [Array.getElem?_setIfInBounds_ne (by decide)]; exact h64
        | j + 3, hu => simp at hu)
      have HW := Lib.hid (HCr.out.setCell (a := ⟨w.heap.size, 62, none⟩) (.inr (Nat.le_refl _)) (.int .u8 52))
      clear h64 h63
      have ks : (convert 61 9 (.slice (some ⟨w.heap.size, 62, none⟩) 3 3)).run Tryd.prog (wr.setCell ⟨w.heap.size, 62, none⟩ (.int .u8 52)) = .ok (.string ⟨#[52, 48, 97]⟩) (wr.setCell ⟨w.heap.size, 62, none⟩ (.int .u8 52)) := run_text (s := ⟨#[52, 48, 97]⟩) 61 9 5 Tryd.underlying61 Tryd.underlying5 Tryd.underlying9 HSL.out
      go_wp2_with fail
      go_ret2
      exact ⟨rfl, HW.out⟩
set_option maxHeartbeats 4000000 in
set_option maxRecDepth 100000 in
theorem fu_any (w : World) (L : Lb w) : Calls Tryd.prog 47 #[.int .u64 1034, .int .i64 16] w (RetW (.string ⟨#[52, 48, 97]⟩) fun w' => Chg NoB w w') := by
  have H := Lib.hid (bits16 w L)
  clear L
  go_enter Tryd.func47, Tryd.ntmps47
  go_wp2_with fail
  with_reducible refine H.out.mono ?_
  rintro e w1 ⟨rfl, C1⟩
  have HC := Lib.hid C1
  clear C1
  go_wp2_with fail
  go_ret
  exact ⟨rfl, HC.out⟩
set_option maxHeartbeats 4000000 in
set_option maxRecDepth 100000 in
theorem sfu_any (w : World) (L : Lb w) : Calls Tryd.prog 31 #[.int .u64 1034, .int .i64 16] w (RetW (.string ⟨#[52, 48, 97]⟩) fun w' => Chg NoB w w') := by
  have H := Lib.hid (fu_any w L)
  clear L
  go_enter Tryd.func31, Tryd.ntmps31
  go_wp2_with fail
  with_reducible refine H.out.mono ?_
  rintro e w1 ⟨rfl, C1⟩
  have HC := Lib.hid C1
  clear C1
  go_wp2_with fail
  go_ret
  exact ⟨rfl, HC.out⟩
set_option maxHeartbeats 4000000 in
set_option maxRecDepth 100000 in
theorem hex_any (w : World) (L : Lb w) : Calls Tryd.prog 15 #[.int .u64 1034] w (RetW (.string ⟨#[52, 48, 97]⟩) fun w' => Chg NoB w w') := by
  have H := Lib.hid (sfu_any w L)
  clear L
  go_enter Tryd.func15, Tryd.ntmps15
  go_wp2_with fail
  with_reducible refine H.out.mono ?_
  rintro e w1 ⟨rfl, C1⟩
  have HC := Lib.hid C1
  clear C1
  go_wp2_with fail
  go_ret
  exact ⟨rfl, HC.out⟩
end Go.Proofs.YtfidiiifcmmffaaDoor
