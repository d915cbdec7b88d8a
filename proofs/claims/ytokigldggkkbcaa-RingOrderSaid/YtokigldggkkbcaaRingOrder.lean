/- RingOrder returns true, whatever it is given. -/
import Derived.Test.YtokigldggkkbcaaRingLaw
set_option linter.unusedVariables false
namespace Go.Proofs.Ytokigldggkkbcaa
open Go.RowKit Go.RR

/-- An append to object i: the new slice is object i's too. -/
theorem Own.tag {t : Nat → Nat} {i lo : Nat} {w w' : World} {E size : Nat} {v v' : Value} {n n' : Nat} {us us' : List Value} (o : Own w (Tg t i lo w) E size v n us)
    (o' : Own w' (fun k => v.ownBlock = some k ∨ k = w.heap.size) E size v' n' us') (g : w.grownBy w' v.ownBlock) (hl : lo ≤ w.heap.size) :
    Own w' (Tg (tup t i w.heap.size) i lo w') E size v' n' us' ∧ Chg (Tg t i lo w) w w' :=
  ⟨o'.monoIn fun k hk h => h.elim (fun h => (o.ownBlock k h).1.keep g.size) (fun h => Tg.fresh hl hk (by omega)), grown_chg g fun k hk => (o.ownBlock k hk).1⟩

def Ord (w0 w : World) (b R : Nat) (q : List ByteArray) (v6 : Value) (ins : List ByteArray) (v7 : Value) (outs : List ByteArray) : Prop :=
  ∃ t, RingAt 121 9 Value.string (Tg t 1 w0.heap.size w) w b q R ∧ Own w (Tg t 2 w0.heap.size w) 9 1 v6 ins.length (ins.map Value.string) ∧
    Own w (Tg t 3 w0.heap.size w) 9 1 v7 outs.length (outs.map Value.string) ∧ Chg NoB w0 w

section
variable {w0 w w' : World} {b R : Nat} {q ins outs : List ByteArray} {v6 v7 : Value}

theorem Ord.chg0 (h : Ord w0 w b R q v6 ins v7 outs) (c : Chg NoB w w') : Ord w0 w' b R q v6 ins v7 outs := by
  obtain ⟨t, h1, h2, h3, h4⟩ := h
  exact ⟨t, (h1.chg c fun _ _ => id).mono fun _ h => h.more c.size, (h2.chg0 c).mono fun _ h => h.more c.size, (h3.chg0 c).mono fun _ h => h.more c.size, h4.then0 c⟩
theorem Ord.fix (h : Ord w0 w b R q v6 ins v7 outs) : Chg NoB w0 w := by obtain ⟨t, h1, h2, h3, h4⟩ := h; exact h4
theorem Ord.len (h : Ord w0 w b R q v6 ins v7 outs) : w.cell? ⟨b, 2, none⟩ = some (.int .i64 q.length) := by
  obtain ⟨t, ⟨_, _, _, _, hB, _⟩, _⟩ := h; exact hB.cell' (i := 2) (by rfl)
theorem Ord.le (h : Ord w0 w b R q v6 ins v7 outs) : q.length ≤ R := by
  obtain ⟨t, ⟨_, _, _, _, hB, h1, _⟩, _⟩ := h; exact h1
theorem Ord.s6 (h : Ord w0 w b R q v6 ins v7 outs) : ∃ p c, v6 = .slice p ins.length c ∧ (0 < ins.length → ∃ g off, p = some ⟨g, off, none⟩ ∧ ∀ j x, ins[j]? = some x → w.cell? ⟨g, off + j, none⟩ = some (.string x)) := by
  obtain ⟨t, _, h, _⟩ := h
  obtain ⟨p, c, e, _, hc⟩ := h.sl.shape
  refine ⟨p, c, e, fun h0 => ?_⟩
  obtain ⟨g, off, e, -, -, q⟩ := hc h0
  exact ⟨g, off, e, fun j x hx => q j _ (by rw [List.getElem?_map, hx]; rfl)⟩
theorem Ord.s7 (h : Ord w0 w b R q v6 ins v7 outs) : ∃ p c, v7 = .slice p outs.length c ∧ (0 < outs.length → ∃ g off, p = some ⟨g, off, none⟩ ∧ ∀ j x, outs[j]? = some x → w.cell? ⟨g, off + j, none⟩ = some (.string x)) := by
  obtain ⟨t, _, _, h, _⟩ := h
  obtain ⟨p, c, e, _, hc⟩ := h.sl.shape
  refine ⟨p, c, e, fun h0 => ?_⟩
  obtain ⟨g, off, e, -, -, q⟩ := hc h0
  exact ⟨g, off, e, fun j x hx => q j _ (by rw [List.getElem?_map, hx]; rfl)⟩
theorem Ord.push (h : Ord w0 w b R q v6 ins v7 outs) (v : ByteArray) (hn : q.length < R) : Calls Try.prog 36 #[.pointer (some ⟨b, 0, none⟩), .string v] w (RetW (.bool true) fun w' => Ord w0 w' b R (q ++ [v]) v6 ins v7 outs) := by
  obtain ⟨t, h1, h2, h3, h4⟩ := h
  refine (s_push_ok _ b q R v w h1 hn).mono ?_
  rintro e w' ⟨rfl, k1, k2⟩
  exact ⟨rfl, tup t 1 w.heap.size, k1.bound fun k hk h => Tg.grow k2.size h4.size hk h, (h2.chg k2 fun _ h => h.apart (by decide)).mono fun _ h => h.keep k2.size, (h3.chg k2 fun _ h => h.apart (by decide)).mono fun _ h => h.keep k2.size,
    h4.trans k2 fun k hk h => h.old hk⟩
theorem Ord.full (h : Ord w0 w b R q v6 ins v7 outs) (v : Value) (hn : q.length = R) : Calls Try.prog 36 #[.pointer (some ⟨b, 0, none⟩), v] w (RetW (.bool false) fun w' => Ord w0 w' b R q v6 ins v7 outs) := by
  have h3 : w.cell? ⟨b, 3, none⟩ = some (.int .i64 R) := by obtain ⟨t, ⟨_, _, _, _, hB, _⟩, _⟩ := h; exact hB.cell' (i := 3) (by rfl)
  refine (s_push_full b _ _ v w h.len h3 (by omega)).mono ?_
  rintro e w' ⟨rfl, hn⟩
  exact ⟨rfl, h.chg0 (Chg.of_ex' hn)⟩
theorem Ord.pop {x : ByteArray} {tl : List ByteArray} (h : Ord w0 w b R (x :: tl) v6 ins v7 outs) : Calls Try.prog 35 #[.pointer (some ⟨b, 0, none⟩)] w (RetW (.tuple #[.string x, .bool true]) fun w' => Ord w0 w' b R tl v6 ins v7 outs) := by
  obtain ⟨t, h1, h2, h3, h4⟩ := h
  refine (s_pop_ok _ b x tl R w h1).mono ?_
  rintro e w' ⟨rfl, k1, k2⟩
  exact ⟨rfl, tup t 1 w.heap.size, k1.mono fun k h => h.keep k2.size, (h2.chg k2 fun _ h => h.apart (by decide)).mono fun _ h => h.keep k2.size, (h3.chg k2 fun _ h => h.apart (by decide)).mono fun _ h => h.keep k2.size,
    h4.trans k2 fun k hk h => h.old hk⟩
theorem Ord.pop_no (h : Ord w0 w b R [] v6 ins v7 outs) : Calls Try.prog 35 #[.pointer (some ⟨b, 0, none⟩)] w (RetW (.tuple #[.string ⟨#[]⟩, .bool false]) fun w' => w = w') :=
  s_pop_no b w h.len
theorem Ord.app6 {v' : Value} {x : ByteArray} (h : Ord w0 w b R q v6 ins v7 outs) {S : Nat → Prop} (o' : Own w' (fun k => v6.ownBlock = some k ∨ k = w.heap.size) 9 1 v' (ins.length + 1) (ins.map Value.string ++ [Value.string x])) (g : w.grownBy w' v6.ownBlock) :
    Ord w0 w' b R q v' (ins ++ [x]) v7 outs := by
  obtain ⟨t, h1, h2, h3, h4⟩ := h
  obtain ⟨k1, k2⟩ := Own.tag h2 o' g h4.size
  exact ⟨tup t 2 w.heap.size, (h1.chg k2 fun _ h => h.apart (by decide)).mono fun _ h => h.keep k2.size, by rw [List.map_append, List.length_append]; exact k1, (h3.chg k2 fun _ h => h.apart (by decide)).mono fun _ h => h.keep k2.size, h4.trans k2 fun k hk h => h.old hk⟩
theorem Ord.app7 {v' : Value} {x : ByteArray} (h : Ord w0 w b R q v6 ins v7 outs) {S : Nat → Prop} (o' : Own w' (fun k => v7.ownBlock = some k ∨ k = w.heap.size) 9 1 v' (outs.length + 1) (outs.map Value.string ++ [Value.string x])) (g : w.grownBy w' v7.ownBlock) :
    Ord w0 w' b R q v6 ins v' (outs ++ [x]) := by
  obtain ⟨t, h1, h2, h3, h4⟩ := h
  obtain ⟨k1, k2⟩ := Own.tag h3 o' g h4.size
  exact ⟨tup t 3 w.heap.size, (h1.chg k2 fun _ h => h.apart (by decide)).mono fun _ h => h.keep k2.size, (h2.chg k2 fun _ h => h.apart (by decide)).mono fun _ h => h.keep k2.size, by rw [List.map_append, List.length_append]; exact k1, h4.trans k2 fun k hk h => h.old hk⟩
end



set_option maxHeartbeats 4000000 in
set_option maxRecDepth 100000 in
theorem ringOrder_any (room : Int) (h0 : 0 ≤ room) (h255 : room ≤ 255) (S0 : Nat → Prop) (sv : Value) (zs : List ByteArray) (w : World) (hs : Sl w S0 1 sv zs.length (zs.map Value.string)) (hlen : zs.length ≤ 9223372036854775807) :
    Calls Try.prog 6 #[.int .u8 room, sv] w (RetW (.bool true) fun w' => Chg NoB w w') := by
  obtain ⟨i0, hi0, hz0, hz1, hz2⟩ := info_parts s_info
  obtain ⟨p, cap, rfl, hcap, hcells⟩ := hs.shape
  clear hs
  obtain ⟨R, rfl⟩ := Int.eq_ofNat_of_zero_le h0
  go_enter Try.func6, Try.ntmps6
  go_wp2_with fail
  refine (ring_first _).mono ?_
  rintro e w1 ⟨rfl, C1⟩
  go_wp2_with fail
  refine (s_new_any R _).mono ?_
  rintro e w2 ⟨b, rfl, -, R2, C2⟩
  rw [show (min (max (R : Int) 0) 65536).toNat = R by omega] at R2
  have hT : Ord w w2 b R [] (.slice none 0 0) [] (.slice none 0 0) [] :=
    ⟨fun _ => 1, R2.bound fun k hk h => ⟨rfl, by have := C1.size; have := h.resolve_left id; omega, hk⟩, Own.nil _ _ _ _, Own.nil _ _ _ _, C1.then0 C2⟩
  clear R2 C1 C2
  go_wp2_with fail
  go_loopg [6, 7, 22] zs.length (fun m v6 v7 i wr => ∃ k : Nat, k + m = zs.length ∧ i = .int .i64 k ∧ ∃ q ins outs, ins = outs ++ q ∧ ins.length ≤ k ∧ k ≤ 200 ∧ Ord w wr b R q v6 ins v7 outs)
  case atStart => exact ⟨0, by omega, rfl, [], [], [], rfl, Nat.le_refl _, by omega, hT⟩
  case round =>
    obtain ⟨k, hk, rfl, q, ins, outs, hio, hik, hk2, hT'⟩ := hrel
    clear hT
    have hT := hT'
    have HIO := Lib.hid hio
    have HK := Lib.hid hk
    have hlt' : k ≤ zs.length := by omega
    clear hT' hio hk
    have hlo : ins.length = outs.length + q.length := by rw [HIO.out, List.length_append]
    have ho : outs.length ≤ 200 := by omega
    have hq : q.length ≤ 200 := by omega
    have hi : ins.length ≤ 200 := by omega
    have HLO := Lib.hid hlo
    clear hlo
    by_cases hlt : k < zs.length
    · obtain ⟨g0, o0, rfl, hg0, hgl0, q0⟩ := hcells (by omega)
      obtain ⟨z, hz⟩ : ∃ z, zs[k]? = some z := ⟨zs[k], by simp [hlt]⟩
      have hzc := hT.fix.cell (q0 k (.string z) (by rw [List.getElem?_map, hz]; rfl)) id
      have hk0 : (0 : Int) ≤ k := by omega
      have hk1 : (k : Int) < zs.length := by omega
      clear hcells q0 hz
      by_cases h200 : k < 200
      · have h200' : decide ((200 : Int) ≤ k) = false := by simp; omega
        go_upto_if 30 with fail
        go_cut [6, 7] (fun v6 v7 wx => ∃ q ins outs, Hid (ins = outs ++ q) ∧ ins.length ≤ k + 1 ∧ Ord w wx b R q v6 ins v7 outs)
        case first =>
          by_cases he : z.toList.isEmpty = true
          · simp only [he]
            rcases q with _ | ⟨x, t⟩
            · go_wp2_with fail
              refine (hT.pop_no).mono ?_
              rintro e w1 ⟨rfl, rfl⟩
              go_wp2_with fail
              go_meet
              exact ⟨[], ins, outs, HIO, by omega, hT⟩
            · go_wp2_with fail
              refine (hT.pop).mono ?_
              rintro e w1 ⟨rfl, hT1⟩
              have hT := hT1
              clear hT1
              have hA := hT.chg0 ((Chg.refl NoB w1).alloc (.cells #[.string x] 9))
              have oA : ∃ S, Own (w1.alloc (.cells #[.string x] 9)) S 9 1 u7 outs.length (outs.map Value.string) := by
                obtain ⟨t, h1, h2, h3, h4⟩ := hA
                exact ⟨_, h3⟩
              obtain ⟨SA, oA⟩ := oA
              have sA : Sl (w1.alloc (.cells #[.string x] 9)) _ 1 (.slice (some ⟨w1.heap.size, 0, none⟩) 1 1) 1 [.string x] := Sl.fresh w1 [.string x] 9 1 rfl
              have one : ∀ u ∈ [Value.string x], u.oneCell' = true := by simp [Value.oneCell']
              have b1 : outs.length + 1 ≤ maxLen := by unfold maxLen; omega
              have b2 : (outs.length + 1) * 16 ≤ 140737488355328 := by omega
              go_wp2_with (at_builtin; go_must (refine wpList_app rfl _ _ 42 rfl i0 _ 16 Try.underlying42 hi0 hz0 hz1 hz2 rfl rfl oA _ 1 _ rfl sA one b1 b2 ?_))
              intro v8 w8 o8 g8 _
              replace o8 : Own w8 (fun k => ((u7 : Value)).ownBlock = some k ∨ k = (w1.alloc (.cells #[.string x] 9)).heap.size) 9 1 v8 (outs.length + 1) (outs.map Value.string ++ [Value.string x]) := by simpa using o8
              have hT8 := hA.app7 (S := SA) o8 g8
              clear oA sA one b1 b2 hA o8 g8
              go_wp2_with fail
              go_meet
              exact ⟨t, ins, outs ++ [x], by unfold Hid; rw [HIO.out]; simp, by omega, hT8⟩
          · have he2 : z.toList.isEmpty = false := by simpa using he
            clear he
            simp only [he2]
            by_cases hf : q.length < R
            · go_wp2_with fail
              refine (hT.push z hf).mono ?_
              rintro e w1 ⟨rfl, hT1⟩
              have hT := hT1
              clear hT1
              have hA := hT.chg0 ((Chg.refl NoB w1).alloc (.cells #[.string z] 9))
              have oA : ∃ S, Own (w1.alloc (.cells #[.string z] 9)) S 9 1 u6 ins.length (ins.map Value.string) := by
                obtain ⟨t, h1, h2, h3, h4⟩ := hA
                exact ⟨_, h2⟩
              obtain ⟨SA, oA⟩ := oA
              have sA : Sl (w1.alloc (.cells #[.string z] 9)) _ 1 (.slice (some ⟨w1.heap.size, 0, none⟩) 1 1) 1 [.string z] := Sl.fresh w1 [.string z] 9 1 rfl
              have one : ∀ u ∈ [Value.string z], u.oneCell' = true := by simp [Value.oneCell']
              have b1 : ins.length + 1 ≤ maxLen := by unfold maxLen; omega
              have b2 : (ins.length + 1) * 16 ≤ 140737488355328 := by omega
              go_wp2_with (at_builtin; go_must (refine wpList_app rfl _ _ 42 rfl i0 _ 16 Try.underlying42 hi0 hz0 hz1 hz2 rfl rfl oA _ 1 _ rfl sA one b1 b2 ?_))
              intro v8 w8 o8 g8 _
              replace o8 : Own w8 (fun k => ((u6 : Value)).ownBlock = some k ∨ k = (w1.alloc (.cells #[.string z] 9)).heap.size) 9 1 v8 (ins.length + 1) (ins.map Value.string ++ [Value.string z]) := by simpa using o8
              have hT8 := hA.app6 (S := SA) o8 g8
              clear oA sA one b1 b2 hA o8 g8
              go_wp2_with fail
              go_meet
              exact ⟨q ++ [z], ins ++ [z], outs, by unfold Hid; rw [HIO.out]; simp, by simp; omega, hT8⟩
            · have hf' : q.length = R := by have := hT.le; omega
              have HF := Lib.hid hf'
              clear hf hf'
              go_wp2_with fail
              refine (hT.full _ HF.out).mono ?_
              rintro e w1 ⟨rfl, hT1⟩
              go_wp2_with fail
              go_meet
              exact ⟨q, ins, outs, HIO, by omega, hT1⟩
        case rest =>
          clear hT HIO hi ho hq HLO hik
          clear q ins outs
          obtain ⟨q, ins, outs, HIO, hik, hT⟩ := hcut
          rename World => wy
          have HLO : Hid (ins.length = outs.length + q.length) := by unfold Hid; rw [HIO.out, List.length_append]
          have hi : (ins.length : Int) ≤ 201 := by omega
          have ho : (outs.length : Int) ≤ 201 := by have := HLO.out; omega
          have hi0 : (0 : Int) ≤ ins.length := by omega
          have ho0 : (0 : Int) ≤ outs.length := by omega
          have hle := hT.le
          have e1 : (ins.length : Int) - outs.length = q.length := by have := HLO.out; omega
          have e2 : decide ((R : Int) < q.length) = false := by simp; omega
          have hq' : (q.length : Int) ≤ 201 := by omega
          obtain ⟨p6, c6, rfl, -⟩ := hT.s6
          obtain ⟨p7, c7, rfl, -⟩ := hT.s7
          clear hzc
          go_wp2_with fail
          refine (s_len_any b _ _ hT.len).mono ?_
          rintro e w1 ⟨rfl, rfl⟩
          go_wp2_with fail
          refine (s_len_any b _ _ hT.len).mono ?_
          rintro e w1 ⟨rfl, rfl⟩
          go_wp2_with fail
          go_roundg (zs.length - (k + 1))
          case measure => have := HK.out; omega
          case rel => exact ⟨k + 1, by have := HK.out; omega, by go_num, q, ins, outs, HIO.out, hik, by omega, hT⟩
      · have h200' : decide ((200 : Int) ≤ k) = true := by simp; omega
        clear h200
        go_wp2_with fail
        go_loopg [7] q.length (fun m v7 wr => ∃ q outs, q.length = m ∧ ins = outs ++ q ∧ Ord w wr b R q u6 ins v7 outs)
        case atStart => exact ⟨q, outs, rfl, HIO.out, hT⟩
        case round =>
          clear hT HIO hq ho HLO
          clear q outs
          obtain ⟨q, outs, hqm, hio, hT⟩ := hrel
          have HIO := Lib.hid hio
          have HQ := Lib.hid hqm
          clear hio hqm
          have HLO : Hid (ins.length = outs.length + q.length) := by unfold Hid; rw [HIO.out, List.length_append]
          have ho : (outs.length : Int) ≤ 300 := by have := HLO.out; omega
          have ho' : decide ((300 : Int) < outs.length) = false := by simp; omega
          have ho2 : outs.length ≤ 300 := by omega
          rcases q with _ | ⟨x, t⟩
          · go_wp2_with fail
            refine (s_len_any b _ _ hT.len).mono ?_
            rintro e w1 ⟨rfl, rfl⟩
            obtain ⟨p6, c6, rfl, h6⟩ := hT.s6
            obtain ⟨p7, c7, rfl, h7⟩ := hT.s7
            have hsame : ins = outs := by rw [HIO.out, List.append_nil]
            subst hsame
            have hC := hT.fix
            clear hT HIO HLO HQ ho ho'
            go_wp2_with fail
            go_loopg [90] ins.length (fun m i wq => ∃ k : Nat, k + m = ins.length ∧ i = .int .i64 k ∧ Chg NoB wr wq)
            case atStart => exact ⟨0, by omega, rfl, Chg.refl _ _⟩
            case round =>
              obtain ⟨k2, hkm, rfl, C2⟩ := hrel
              have HKM := Lib.hid hkm
              clear hkm
              by_cases hl : k2 < ins.length
              · obtain ⟨g6, o6, rfl, q6⟩ := h6 (by omega)
                obtain ⟨g7, o7, rfl, q7⟩ := h7 (by omega)
                obtain ⟨x, hx⟩ : ∃ x, ins[k2]? = some x := ⟨ins[k2], by simp [hl]⟩
                have e6 := C2.cell (q6 k2 x hx) id
                have e7 := C2.cell (q7 k2 x hx) id
                have l0 : (0 : Int) ≤ k2 := by omega
                have l1 : (k2 : Int) < ins.length := by omega
                clear h6 h7 q6 q7 hx
                go_wp2_with fail
                go_quiet (fail)
                go_wp2_with fail
                go_roundg (ins.length - (k2 + 1))
                case measure => have := HKM.out; omega
                case rel => exact ⟨k2 + 1, by omega, by go_num, C2.drewN _⟩
              · obtain rfl : k2 = ins.length := by have := HKM.out; omega
                clear h6 h7
                go_wp2
                go_ret
                exact ⟨rfl, hC.then0 C2⟩
          · have hx0 : (0 : Int) < (x :: t).length := by simp
            go_wp2_with fail
            refine (s_len_any b _ _ hT.len).mono ?_
            rintro e w1 ⟨rfl, rfl⟩
            go_wp2_with fail
            refine (hT.pop).mono ?_
            rintro e w1 ⟨rfl, hT1⟩
            have hT := hT1
            clear hT1
            obtain ⟨p7, c7, rfl, -⟩ := hT.s7
            have hA := hT.chg0 ((Chg.refl NoB w1).alloc (.cells #[.string x] 9))
            have oA : ∃ S, Own (w1.alloc (.cells #[.string x] 9)) S 9 1 (.slice p7 outs.length c7) outs.length (outs.map Value.string) := by
              obtain ⟨t, h1, h2, h3, h4⟩ := hA
              exact ⟨_, h3⟩
            obtain ⟨SA, oA⟩ := oA
            have sA : Sl (w1.alloc (.cells #[.string x] 9)) _ 1 (.slice (some ⟨w1.heap.size, 0, none⟩) 1 1) 1 [.string x] := Sl.fresh w1 [.string x] 9 1 rfl
            have one : ∀ u ∈ [Value.string x], u.oneCell' = true := by simp [Value.oneCell']
            have b1 : outs.length + 1 ≤ maxLen := by unfold maxLen; omega
            have b2 : (outs.length + 1) * 16 ≤ 140737488355328 := by omega
            go_wp2_with (at_builtin; go_must (refine wpList_app rfl _ _ 42 rfl i0 _ 16 Try.underlying42 hi0 hz0 hz1 hz2 rfl rfl oA _ 1 _ rfl sA one b1 b2 ?_))
            intro v8 w8 o8 g8 _
            replace o8 : Own w8 (fun k => (((.slice p7 outs.length c7) : Value)).ownBlock = some k ∨ k = (w1.alloc (.cells #[.string x] 9)).heap.size) 9 1 v8 (outs.length + 1) (outs.map Value.string ++ [Value.string x]) := by simpa using o8
            have hT8 := hA.app7 (S := SA) o8 g8
            clear oA sA one b1 b2 hA o8 g8
            go_wp2_with fail
            go_roundg t.length
            case measure => have := HQ.out; simp only [List.length_cons] at this; omega
            case rel => exact ⟨t, outs ++ [x], rfl, by rw [HIO.out]; simp, hT8⟩
    · go_wp2_with fail
      go_loopg [7] q.length (fun m v7 wr => ∃ q outs, q.length = m ∧ ins = outs ++ q ∧ Ord w wr b R q u6 ins v7 outs)
      case atStart => exact ⟨q, outs, rfl, HIO.out, hT⟩
      case round =>
        clear hT HIO hq ho HLO
        clear q outs
        obtain ⟨q, outs, hqm, hio, hT⟩ := hrel
        have HIO := Lib.hid hio
        have HQ := Lib.hid hqm
        clear hio hqm
        have HLO : Hid (ins.length = outs.length + q.length) := by unfold Hid; rw [HIO.out, List.length_append]
        have ho : (outs.length : Int) ≤ 300 := by have := HLO.out; omega
        have ho' : decide ((300 : Int) < outs.length) = false := by simp; omega
        have ho2 : outs.length ≤ 300 := by omega
        rcases q with _ | ⟨x, t⟩
        · go_wp2_with fail
          refine (s_len_any b _ _ hT.len).mono ?_
          rintro e w1 ⟨rfl, rfl⟩
          obtain ⟨p6, c6, rfl, h6⟩ := hT.s6
          obtain ⟨p7, c7, rfl, h7⟩ := hT.s7
          have hsame : ins = outs := by rw [HIO.out, List.append_nil]
          subst hsame
          have hC := hT.fix
          clear hT HIO HLO HQ ho ho'
          go_wp2_with fail
          go_loopg [90] ins.length (fun m i wq => ∃ k : Nat, k + m = ins.length ∧ i = .int .i64 k ∧ Chg NoB wr wq)
          case atStart => exact ⟨0, by omega, rfl, Chg.refl _ _⟩
          case round =>
            obtain ⟨k2, hkm, rfl, C2⟩ := hrel
            have HKM := Lib.hid hkm
            clear hkm
            by_cases hl : k2 < ins.length
            · obtain ⟨g6, o6, rfl, q6⟩ := h6 (by omega)
              obtain ⟨g7, o7, rfl, q7⟩ := h7 (by omega)
              obtain ⟨x, hx⟩ : ∃ x, ins[k2]? = some x := ⟨ins[k2], by simp [hl]⟩
              have e6 := C2.cell (q6 k2 x hx) id
              have e7 := C2.cell (q7 k2 x hx) id
              have l0 : (0 : Int) ≤ k2 := by omega
              have l1 : (k2 : Int) < ins.length := by omega
              clear h6 h7 q6 q7 hx
              go_wp2_with fail
              go_quiet (fail)
              go_wp2_with fail
              go_roundg (ins.length - (k2 + 1))
              case measure => have := HKM.out; omega
              case rel => exact ⟨k2 + 1, by omega, by go_num, C2.drewN _⟩
            · obtain rfl : k2 = ins.length := by have := HKM.out; omega
              clear h6 h7
              go_wp2
              go_ret
              exact ⟨rfl, hC.then0 C2⟩
        · have hx0 : (0 : Int) < (x :: t).length := by simp
          go_wp2_with fail
          refine (s_len_any b _ _ hT.len).mono ?_
          rintro e w1 ⟨rfl, rfl⟩
          go_wp2_with fail
          refine (hT.pop).mono ?_
          rintro e w1 ⟨rfl, hT1⟩
          have hT := hT1
          clear hT1
          obtain ⟨p7, c7, rfl, -⟩ := hT.s7
          have hA := hT.chg0 ((Chg.refl NoB w1).alloc (.cells #[.string x] 9))
          have oA : ∃ S, Own (w1.alloc (.cells #[.string x] 9)) S 9 1 (.slice p7 outs.length c7) outs.length (outs.map Value.string) := by
            obtain ⟨t, h1, h2, h3, h4⟩ := hA
            exact ⟨_, h3⟩
          obtain ⟨SA, oA⟩ := oA
          have sA : Sl (w1.alloc (.cells #[.string x] 9)) _ 1 (.slice (some ⟨w1.heap.size, 0, none⟩) 1 1) 1 [.string x] := Sl.fresh w1 [.string x] 9 1 rfl
          have one : ∀ u ∈ [Value.string x], u.oneCell' = true := by simp [Value.oneCell']
          have b1 : outs.length + 1 ≤ maxLen := by unfold maxLen; omega
          have b2 : (outs.length + 1) * 16 ≤ 140737488355328 := by omega
          go_wp2_with (at_builtin; go_must (refine wpList_app rfl _ _ 42 rfl i0 _ 16 Try.underlying42 hi0 hz0 hz1 hz2 rfl rfl oA _ 1 _ rfl sA one b1 b2 ?_))
          intro v8 w8 o8 g8 _
          replace o8 : Own w8 (fun k => (((.slice p7 outs.length c7) : Value)).ownBlock = some k ∨ k = (w1.alloc (.cells #[.string x] 9)).heap.size) 9 1 v8 (outs.length + 1) (outs.map Value.string ++ [Value.string x]) := by simpa using o8
          have hT8 := hA.app7 (S := SA) o8 g8
          clear oA sA one b1 b2 hA o8 g8
          go_wp2_with fail
          go_roundg t.length
          case measure => have := HQ.out; simp only [List.length_cons] at this; omega
          case rel => exact ⟨t, outs ++ [x], rfl, by rw [HIO.out]; simp, hT8⟩
end Go.Proofs.Ytokigldggkkbcaa
