/- The parts of a load or a store, filled by the program. No condition. -/
import Derived.Test.YtfidiiifcmmffaaGreatDoorAsm11
set_option linter.unusedVariables false
set_option linter.unusedSimpArgs false
namespace Go.Proofs.YtfidiiifcmmffaaGreatDoor
open Go.RowKit Go.RR
set_option maxHeartbeats 4000000 in
set_option maxRecDepth 100000 in
theorem moved_two (k : Bool) (s t : Bs) (b g c : Nat) (op rd rs rt im : Int) (T : TypeId) (w : World) (hs : s.length ≤ 100000) (ht : t.length ≤ 100000) (L : Lb w)
    (hb : Blk w b #[.int .i64 op, .int .i64 rd, .int .i64 rs, .int .i64 rt, .int .i64 im] T) (h0 : w.cell? ⟨g, 0, none⟩ = some (.string ⟨s.toArray⟩)) (h1 : w.cell? ⟨g, 1, none⟩ = some (.string ⟨t.toArray⟩)) (hg : g < w.heap.size) :
    Calls Tryz.prog 31 #[.pointer (some ⟨b, 0, none⟩), .string (if k = true then ⟨#[76]⟩ else ⟨#[83]⟩), .slice (some ⟨g, 0, none⟩) 2 c] w (RetV fun v w' => ∃ r n q : Int, v = .bool ((regP s).isSome && (plP t).isSome) ∧ (∀ m, regP s = some m → r = m) ∧
      (∀ m k, plP t = some (m, k) → n = m ∧ q = k) ∧ Chg (· = b) w w' ∧
      Blk w' b (if k = true then #[.int .i64 op, .int .i64 r, .int .i64 q, .int .i64 rt, .int .i64 n] else #[.int .i64 op, .int .i64 rd, .int .i64 q, .int .i64 r, .int .i64 n]) T) := by
  have HL := Lib.hid L
  have HS := Lib.hid hs
  have HT := Lib.hid ht
  have HB := Lib.hid hb
  have H1 := Lib.hid h1
  have HG := Lib.hid hg
  clear L hs ht h1 hg
  cases k
  all_goals
    simp only [reduceCtorEq, if_true, if_false]
    go_enter Tryz.func31, Tryz.ntmps31
    go_wp2_with fail
    with_reducible refine (register_any s _ HS.out HL.out).mono ?_
    rintro e w1 ⟨v1, rfl, ⟨r, rfl, hr⟩, C1⟩
    have h1 : w1.cell? ⟨g, 1, none⟩ = some (.string ⟨t.toArray⟩) := C1.cell H1.out (fun h => h)
    have HR := Lib.hid hr
    have HC1 := Lib.hid C1
    obtain ⟨x, hx⟩ : ∃ x, (regP s).isSome = x := ⟨_, rfl⟩
    rw [hx]
    have HX := Lib.hid hx
    clear hr C1 hx h0 hb
    go_wp2_with fail
    with_reducible refine (place_any t _ HT.out (HL.out.chg0 HC1.out)).mono ?_
    rintro e w2 ⟨v2, rfl, ⟨n, q, rfl, hp⟩, C2⟩
    have HP := Lib.hid hp
    have HC := Lib.hid (HC1.out.step C2)
    have HB2 : Hid (Blk w2 b #[.int .i64 op, .int .i64 rd, .int .i64 rs, .int .i64 rt, .int .i64 im] T) := Lib.hid ((HC.out.block b HB.out.lt (fun h => h)).trans HB.out)
    obtain ⟨y, hy⟩ : ∃ y, (plP t).isSome = y := ⟨_, rfl⟩
    rw [hy]
    have HY := Lib.hid hy
    clear C2 hp hy h1
    have x4 := HB2.out.cell' (i := 4) (v := .int .i64 im) rfl
    have x2 := HB2.out.cell' (i := 2) (v := .int .i64 rs) rfl
    have x1 := HB2.out.cell' (i := 1) (v := .int .i64 rd) rfl
    have x3 := HB2.out.cell' (i := 3) (v := .int .i64 rt) rfl
    have f4 := HB2.out.frozen 4
    have f2 := HB2.out.frozen 2
    have f1 := HB2.out.frozen 1
    have f3 := HB2.out.frozen 3
    have hbl := HB2.out.lt
    cases x <;> cases y
    all_goals
      go_wp2_with fail
      go_ret
      refine ⟨_, rfl, r, n, q, ?_, HR.out, HP.out, ?_, ?_⟩
      · rw [HX.out, HY.out]; rfl
      · exact ((((Chg.refl (· = b) w).then0 HC.out).setCell (.inl rfl) _).setCell (.inl rfl) _).setCell (.inl rfl) _
      · exact (((HB2.out.set 4 _).set 2 _).set _ _)
end Go.Proofs.YtfidiiifcmmffaaGreatDoor
