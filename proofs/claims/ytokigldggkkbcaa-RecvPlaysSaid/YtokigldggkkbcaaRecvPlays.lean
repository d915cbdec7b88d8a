/- RecvPlays returns true, whatever it is given. -/
import Derived.Test.YtokigldggkkbcaaRecvBoth
set_option linter.unusedVariables false
namespace Go.Proofs.Ytokigldggkkbcaa
open Go.RowKit Go.RR

theorem pcells_at : ∀ (ps : List (Int × Value × ByteArray)) (i : Nat) (p : Int × Value × ByteArray), ps[i]? = some p → (ps.flatMap fun p => [Value.int .u64 p.1, p.2.1])[i * 2]? = some (.int .u64 p.1) ∧ (ps.flatMap fun p => [Value.int .u64 p.1, p.2.1])[i * 2 + 1]? = some p.2.1
  | [], i, p, h => by simp at h
  | q :: e, 0, p, h => by simp at h; subst h; exact ⟨rfl, rfl⟩
  | q :: e, i + 1, p, h => by
    have := pcells_at e i p (by simpa using h)
    rw [show (i + 1) * 2 = i * 2 + 2 by omega]
    exact this

theorem Step.outs {room next seq n2 : Int} {e e2 : Early} {s : ByteArray} {ok : Bool} {outs : List ByteArray} (h : Step room next e seq s ok outs n2 e2) (pe : PE (next + 1) (next + room) e) (r0 : 0 ≤ room) : outs.length ≤ e.length + 1 := by
  rcases h with ⟨rfl, rfl, rfl, rfl, hc⟩ | ⟨rfl, hin, hin2, hf, hfo⟩
  · simp
  · have := follow_PE (e.length + 1) next (next + room) (e ++ [(seq, s)]) (by simp) ((pe.wide (by omega) (Int.le_refl _)).put hin (by omega) hf)
    rw [hfo] at this
    obtain ⟨h1, h2, h3⟩ := this
    simp only [List.length_append, List.length_cons, List.length_nil] at h3
    omega

theorem own_set1 {w : World} {S : Nat → Prop} {E : TypeId} {g off n cap k : Nat} {us : List Value} (h : Own w S E 1 (.slice (some ⟨g, off, none⟩) n cap) n us) (v : Value) : Own (w.setCell ⟨g, off + k, none⟩ v) S E 1 (.slice (some ⟨g, off, none⟩) n cap) n (us.set k v) := by
  obtain ⟨h1, h2 | ⟨g', off', cap', cur, e, hS, hB, hn, hm, hsz, hc⟩⟩ := h
  · exact absurd h2.1 (by simp)
  · cases e
    refine ⟨by simpa using h1, .inr ⟨g, off, cap, _, rfl, hS, hB.set (off + k) v, hn, hm, by simpa using hsz, fun j u hu => ?_⟩⟩
    by_cases hj : k = j
    · subst hj
      have hk : k < us.length := by have := (List.getElem?_eq_some_iff.1 hu).1; simpa using this
      rw [List.getElem?_set_self hk] at hu
      cases hu
      rw [Array.getElem?_setIfInBounds_self_of_lt (by omega)]
    · rw [List.getElem?_set_ne hj] at hu
      rw [Array.getElem?_setIfInBounds_ne (by omega)]
      exact hc j u hu

set_option maxHeartbeats 4000000 in
set_option maxRecDepth 100000 in
theorem recvPlays_any (room : Int) (sv : Value) (ps : List (Int × Value × ByteArray)) (w : World) (hs : Sl w (fun k => k < w.heap.size) 2 sv ps.length (ps.flatMap fun p => [.int .u64 p.1, p.2.1]))
    (hp : ∀ p ∈ ps, 0 ≤ p.1 ∧ p.1 ≤ 18446744073709551615 ∧ p.2.2.size ≤ 9223372036854775807 ∧ Sl w (fun k => k < w.heap.size) 1 p.2.1 p.2.2.size (byteCells p.2.2)) (hlen : ps.length ≤ 9223372036854775807) :
    Calls Try.prog 4 #[.int .i64 room, sv] w (RetW (.bool true) fun w' => Chg NoB w w') := by
  obtain ⟨i0, hi0, hz0, hz1, hz2⟩ := info_parts b_elem
  obtain ⟨p, cap, rfl, hcap, hcells⟩ := hs.shape
  clear hs
  by_cases hbad : room < 0 ∨ 64 < room
  · clear hcells hp
    go_enter Try.func4, Try.ntmps4
    go_wp2_with fail
    refine (recv_first _).mono ?_
    rintro e w1 ⟨rfl, C1⟩
    go_wp2_with fail
    refine (recvNewBad room _ hbad).mono ?_
    rintro e w2 ⟨rfl, rfl⟩
    by_cases hneg : room < 0
    · have hd : decide (room < 0) = true := by simpa using hneg
      clear hbad hneg
      go_wp2_with fail
      refine ((recvNil w1) _ _).mono ?_
      rintro e w3 ⟨rfl, C3⟩
      go_wp2_with fail
      refine (ackNil w3).mono ?_
      rintro e w4 ⟨rfl, rfl⟩
      go_wp2_with fail
      refine (earlyNil w3).mono ?_
      rintro e w4 ⟨rfl, rfl⟩
      go_wp2_with fail
      refine (rroomNil w3).mono ?_
      rintro e w4 ⟨rfl, rfl⟩
      go_wp2
      go_ret
      exact ⟨rfl, C1.then0 C3⟩
    · have hd : decide (room < 0) = false := by simpa using hneg
      have hd2 : decide (64 < room) = true := by have := hbad.resolve_left hneg; simpa using this
      clear hbad hneg
      go_wp2_with fail
      refine ((recvNil w1) _ _).mono ?_
      rintro e w3 ⟨rfl, C3⟩
      go_wp2_with fail
      refine (ackNil w3).mono ?_
      rintro e w4 ⟨rfl, rfl⟩
      go_wp2_with fail
      refine (earlyNil w3).mono ?_
      rintro e w4 ⟨rfl, rfl⟩
      go_wp2_with fail
      refine (rroomNil w3).mono ?_
      rintro e w4 ⟨rfl, rfl⟩
      go_wp2
      go_ret
      exact ⟨rfl, C1.then0 C3⟩
  · have r0 : 0 ≤ room := by omega
    have r1 : room ≤ 64 := by omega
    have hd : decide (room < 0) = false := by simp; omega
    have hd2 : decide (64 < room) = false := by simp; omega
    clear hbad
    go_enter Try.func4, Try.ntmps4
    go_wp2_with fail
    refine (recv_first _).mono ?_
    rintro e w1 ⟨rfl, C1⟩
    go_wp2_with fail
    refine (recvNew room _ r0 r1).mono ?_
    rintro e w2 ⟨_, rfl, b, rfl, R2, C2⟩
    have hB : Both w (w2.alloc (.cells #[.int .i64 room, .int .u64 1, .slice none 0 0] 39)) b w2.heap.size room 1 [] 1 [] := by
      have h1 := C1.size
      have h2 := C2.size
      have A := (Chg.refl NoB w2).alloc (.cells #[.int .i64 room, .int .u64 1, .slice none 0 0] 39)
      refine ⟨fun k => if k < w2.heap.size then 1 else 2, ?_, ⟨_, ?_, Blk.new w2 #[.int .i64 room, .int .u64 1, .slice none 0 0] 39, Sl.nil _ _ _⟩, (C1.then0 C2).then0 A⟩
      · refine ((R2.bound (S' := fun k => w.heap.size ≤ k ∧ k < w2.heap.size) fun k hk h => ⟨by omega, hk⟩).chg A fun _ _ => id).bound fun k _ h => ⟨by simp [h.2], h.1, ?_⟩
        have := A.size; omega
      · exact ⟨by simp, by omega, by simp⟩
    clear R2 C1 C2
    go_wp2_with fail
    generalize hc : w2.heap.size = c at *
    generalize hw3 : World.alloc w2 _ = w3 at *
    clear hc hw3
    go_loopg [71] ps.length (fun m i wr => ∃ k : Nat, k + m = ps.length ∧ i = .int .i64 k ∧ k ≤ 120 ∧ ∃ (next : Int) (e : Early), Both w wr b c room next e next e ∧ PE (next + 1) (next + room) e ∧ 1 ≤ next ∧ next + e.length ≤ k + 1)
    case atStart => exact ⟨0, by omega, rfl, by omega, 1, [], hB, trivial, by omega, by simp⟩
    case round =>
      obtain ⟨k, hk, rfl, hk120, next, e, hB2, hpe, hn1, hne⟩ := hrel
      clear hB
      have HK := Lib.hid hk
      have hkl : k ≤ ps.length := by omega
      have HPE := Lib.hid hpe
      clear hk hpe
      obtain ⟨t, hRA, hRR, hC⟩ := hB2
      by_cases hlt : k < ps.length
      · obtain ⟨g0, o0, rfl, -, hg0, q0⟩ := hcells (by omega)
        obtain ⟨⟨seq, pv, bs⟩, hx⟩ : ∃ x, ps[k]? = some x := ⟨ps[k], by simp [hlt]⟩
        obtain ⟨s0, s1, hbs, hpv⟩ := hp _ (List.mem_of_getElem? hx)
        obtain ⟨a1, a2⟩ := pcells_at ps k _ hx
        have c1 := hC.cell (q0 _ _ a1) id
        have c2 := hC.cell (q0 _ _ a2) id
        rw [← Nat.add_assoc] at c2
        simp only at c1 c2 s0 s1 hbs hpv
        have hgl : g0 < wr.heap.size := Nat.lt_of_lt_of_le hg0 hC.size
        have l0 : (0 : Int) ≤ k := by omega
        have l1 : (k : Int) < ps.length := by omega
        obtain ⟨pp, pc, rfl⟩ : ∃ p c, pv = .slice p bs.size c := by obtain ⟨_, p, c, h, _⟩ := hpv; exact ⟨p, c, h⟩
        clear hcells q0 hx a1 a2 hp
        by_cases hk2 : k = 120
        · subst hk2
          go_wp2
          go_ret
          exact ⟨rfl, hC.alloc _⟩
        · have hk3 : decide ((120 : Int) ≤ k) = false := by simp; omega
          have hk119 : k + 1 ≤ 120 := by omega
          by_cases hsz : 200 < bs.size
          · have hsz' : decide ((200 : Int) < bs.size) = true := by simp; omega
            clear hk2
            go_wp2
            go_ret
            exact ⟨rfl, hC.alloc _⟩
          · have hsz' : decide ((200 : Int) < bs.size) = false := by simp; omega
            have hbs2 : bs.size ≤ 200 := by omega
            have E1 := ((Chg.refl NoB wr).alloc (.cells #[.int .u64 seq, .slice pp bs.size pc] 41))
            have B1 := Blk.new wr #[.int .u64 seq, .slice pp bs.size pc] 41
            generalize hwa : wr.alloc (.cells #[.int .u64 seq, .slice pp bs.size pc] 41) = wa at *
            have hpa := (hpv.chg0 (hC.then0 E1)).chg0 ((Chg.refl NoB wa).alloc (.cells #[] 5))
            have o1 : Own (wa.alloc (.cells #[] 5)) (fun k => k = wa.heap.size) 5 1 (.slice (some ⟨wa.heap.size, 0, none⟩) 0 0) 0 [] := Own.fresh wa [] 5 0 rfl (by unfold maxLen; omega)
            have b1 : 0 + bs.size ≤ maxLen := by unfold maxLen; omega
            have b2 : (0 + bs.size) * 1 ≤ 140737488355328 := by omega
            have one : ∀ u ∈ byteCells bs, u.oneCell' = true := by
              intro u hu
              obtain ⟨x, -, rfl⟩ := List.mem_map.1 hu
              rfl
            have x1 := B1.cell' (i := 0) (by rfl)
            have x2 := B1.cell' (i := 1) (by rfl)
            have x3 := B1.lt
            clear hk2 hsz
            have hsz1 : wa.heap.size = wr.heap.size + 1 := by rw [← hwa]; simp
            rw [hsz1] at o1
            clear hsz1
            subst hwa
            go_wp2_with (at_builtin; go_must (refine wpList_app rfl _ _ 22 rfl i0 _ 1 Try.underlying22 hi0 hz0 hz1 hz2 rfl rfl o1 _ bs.size _ rfl hpa one b1 b2 ?_))
            intro v5 w5 o5 g5 _
            have hs1 : wr.heap.size ≤ (wr.alloc (.cells #[.int .u64 seq, .slice pp bs.size pc] 41)).heap.size := E1.size
            have hsA : (wr.alloc (.cells #[.int .u64 seq, .slice pp bs.size pc] 41)).heap.size = wr.heap.size + 1 := by simp
            have HSA := Lib.hid hsA
            clear hsA
            have o5' : Own w5 (fun j => wr.heap.size < j ∧ j < w5.heap.size) 5 1 v5 bs.size (byteCells bs) := by
              have hsA := HSA.out
              have := o5.monoIn (S' := fun j => wr.heap.size < j ∧ j < w5.heap.size) (fun j hj h => h.elim (fun h => by simp [Value.ownBlock] at h; omega) (fun h => by omega))
              simpa using this
            have C5 : Chg NoB (wr.alloc (.cells #[.int .u64 seq, .slice pp bs.size pc] 41)) w5 := ((Chg.refl NoB _).alloc (.cells #[] 5)).grown g5 (fun j hj => .inr (by have hsA := HSA.out; simp [Value.ownBlock] at hj; omega))
            have B5 := C5.blk0 B1
            have D5 := E1.step C5
            have x1 := B5.cell' (i := 0) (by rfl)
            have x2 := B5.cell' (i := 1) (by rfl)
            have x3 := B5.lt
            obtain ⟨p5, c5, rfl⟩ : ∃ p c, v5 = .slice p bs.size c := by obtain ⟨_, p, c, h, _⟩ := o5'.sl; exact ⟨p, c, h⟩
            clear o5 g5 hpa o1 b1 b2 one c1 c2 E1 C5 hs1
            have hRA5 := hRA.chg D5 (fun _ _ => id)
            obtain ⟨ok, outs, n2, e2, hst⟩ := Step.ex room next e seq bs
            have HST := Lib.hid hst
            clear hst
            go_wp2_with fail
            refine (takeStep _ _ _ b room next seq e _ bs hRA5 o5'.sl (by omega) r0 r1 (by omega) (by omega) s0 s1 ok outs n2 e2 HST.out).mono ?_
            rintro _ w6 ⟨_, rfl, q6, vs, rfl, R6, C6, Q6, V6⟩
            clear x1 x2 x3 hRA5
            have B6 := C6.blk B5 (fun h => by have := h.2.2; omega)
            have x1 := B6.cell' (i := 0) (by rfl)
            have x2 := B6.cell' (i := 1) (by rfl)
            have x3 := B6.lt
            have Y6 : Chg NoB w w6 := (hC.then0 D5).trans C6 (fun j hj h => (h.old hj).elim)
            have hcv := run_str (P := Try.prog) 22 9 5 Try.underlying22 Try.underlying5 Try.underlying9 (hpv.chg0 Y6)
            have hRR6 := (hRR.chg D5 (fun _ _ => id)).chg C6 (fun _ h => Tg.apart (by decide) h)
            have O6 := o5'.chg C6 (fun j h h' => by have := h.1; have := h'.2.2; omega)
            go_wp2_with fail
            refine (refStep _ _ c room next seq e bs hRR6 HPE.out r0 r1 (by omega) (by omega) s0 s1 ok outs n2 e2 HST.out).mono ?_
            rintro _ w7 ⟨_, rfl, q7, rfl, F7, C7, Q7⟩
            have O7 := O6.chg C7 (fun j h h' => by have := h.1; have := h'.2.2; omega)
            clear x1 x2 x3 hcv hRR6 O6 o5' hpv
            go_wp2_with fail
            obtain ⟨Sp, hSp⟩ : ∃ Sp : Nat → Prop, Sp = fun j => wr.heap.size < j ∧ j < w5.heap.size := ⟨_, rfl⟩
            rw [← hSp] at O7
            have HSP := Lib.hid hSp
            clear hSp
            have FIN : ∀ w8, Chg Sp w7 w8 → Both w w8 b c room n2 e2 n2 e2 ∧ (∃ S1, Sl w8 S1 1 q6 outs.length vs) ∧ (∃ S2, Bodies w8 S2 vs outs) ∧ (∃ S3, Sl w8 S3 1 q7 outs.length (outs.map Value.string)) := by
              intro w8 C8
              have hS : ∀ j, Sp j → wr.heap.size < j ∧ j < w5.heap.size := fun j h => by rw [HSP.out] at h; exact h
              have s0 := hC.size
              have s5 := D5.size
              have s6 := C6.size
              have s7 := C7.size
              have s8 := C8.size
              have n7 : ∀ k, Grow (Tg t 1 w.heap.size wr) w5 k → ¬ Tg t 2 w.heap.size wr k := fun k h h' => h.elim (Tg.apart (by decide) · h') (fun h => by have := h'.2.2; omega)
              have n8 : ∀ k, Grow (Tg t 1 w.heap.size wr) w5 k → ¬ Sp k := fun k h h' => by have := hS k h'; exact h.elim (fun h => by have := h.2.2; omega) (fun h => by omega)
              refine ⟨⟨fun k => if k < wr.heap.size then t k else if k < w5.heap.size then 3 else if k < w6.heap.size then 1 else 2, ?_, ?_, ?_⟩, ⟨_, (Q6.chg C7 fun k h h' => by have := h'.2.2; omega).chg C8 fun k h h' => by have := hS k h'; omega⟩, ⟨_, (V6.chg C7 n7).chg C8 n8⟩, ⟨_, Q7.chg C8 fun k h h' => by have := hS k h'; omega⟩⟩
              · refine (((R6.bound (S' := fun k => Grow (Tg t 1 w.heap.size wr) w5 k ∧ k < w6.heap.size) fun k hk h => ⟨h, hk⟩).chg C7 fun k h => n7 k h.1).chg C8 fun k h => n8 k h.1).bound fun k hk h => ⟨?_, ?_, hk⟩
                · rcases h.1 with g | g
                  · simp only [if_pos g.2.2]; exact g.1
                  · have := h.2; simp only [if_neg (show ¬ k < wr.heap.size by omega), if_neg (show ¬ k < w5.heap.size by omega), if_pos this]
                · rcases h.1 with g | g
                  · exact g.2.1
                  · omega
              · refine (F7.chg C8 fun k h h' => by have := hS k h'; exact h.elim (fun h => by have := h.2.2; omega) (fun h => by omega)).bound fun k hk h => ⟨?_, ?_, hk⟩
                · rcases h with g | g
                  · simp only [if_pos g.2.2]; exact g.1
                  · simp only [if_neg (show ¬ k < wr.heap.size by omega), if_neg (show ¬ k < w5.heap.size by omega), if_neg (show ¬ k < w6.heap.size by omega)]
                · rcases h with g | g
                  · exact g.2.1
                  · omega
              · exact ((Y6.trans C7 fun k hk h => (h.old hk).elim)).trans C8 fun k hk h => by have := hS k h; omega
            clear R6 Q6 V6 F7 Q7 D5 C6 C7 Y6 B1 B5 B6
            go_loopg [108] bs.size (fun m i wr => ∃ k2 : Nat, k2 + m = bs.size ∧ i = .int .i64 k2 ∧ (∃ zs : List Int, zs.length = bs.size ∧ Own wr Sp 5 1 (.slice p5 bs.size c5) bs.size (zs.map (Value.int .u8))) ∧ Chg Sp w7 wr)
            case atStart => exact ⟨0, by omega, rfl, ⟨bs.data.toList.map fun b => (b.toNat : Int), by cases bs; simp [ByteArray.size], by rw [List.map_map]; exact O7⟩, Chg.refl _ _⟩
            case round =>
              obtain ⟨k2, hk2, rfl, ⟨zs, hzl, hz⟩, C8⟩ := hrel
              have HK2 := Lib.hid hk2
              have hk2l : k2 ≤ bs.size := by omega
              have HZ := Lib.hid hz
              have HZL := Lib.hid hzl
              clear hk2 O7 hz
              by_cases hl2 : k2 < bs.size
              · obtain ⟨-, h2 | ⟨g5, o5, c6, cur, e5, hS5, hB5, hn5, hm5, hsz5, q5⟩⟩ := HZ.out
                · have := h2.2; omega
                cases e5
                obtain ⟨z, hzk⟩ : ∃ z, zs[k2]? = some z := ⟨zs[k2], by simp [hzl, hl2]⟩
                have hzc := hB5.cell' (q5 k2 (.int .u8 z) (by rw [List.getElem?_map, hzk]; rfl))
                have m0 : (0 : Int) ≤ k2 := by omega
                have m1 : (k2 : Int) < bs.size := by omega
                have hf5 := hB5.frozen (o5 + k2)
                have hl5 := hB5.lt
                have key : ∀ x : Int, ∃ zs' : List Int, zs'.length = bs.size ∧ Own (wr.setCell ⟨g5, o5 + k2, none⟩ (.int .u8 x)) Sp 5 1 (.slice (some ⟨g5, o5, none⟩) bs.size c5) bs.size (zs'.map (Value.int .u8)) := fun x => ⟨zs.set k2 x, by have := HZL.out; rw [List.length_set]; exact this, by rw [List.map_set]; exact own_set1 HZ.out _⟩
                clear q5 hzk hzl hn5 hm5 hsz5 hB5
                go_wp2_with fail
                go_roundg (bs.size - (k2 + 1))
                case measure => have := HK2.out; omega
                case rel => exact ⟨k2 + 1, by have := HK2.out; omega, by go_num, key _, C8.setCell (a := ⟨g5, o5 + k2, none⟩) (.inl hS5) _⟩
              · obtain rfl : k2 = bs.size := by have := HK2.out; omega
                obtain ⟨hB2, ⟨S1, Q1⟩, ⟨S2, V1⟩, ⟨S3, Q3⟩⟩ := FIN _ C8
                obtain ⟨hk1, hk2, hk3⟩ := HST.out.keeps HPE.out r0
                have hcnt : e2.length ≤ room.toNat := hk1.count _ _ _ e2 (by omega)
                have ho : outs.length ≤ 1000000 := by have := HST.out.outs HPE.out r0; omega
                have hc0 : decide (room < (e2.length : Int)) = false := by simp; omega
                have hB3 := hB2
                obtain ⟨t2, hA2, hR2, -⟩ := hB2
                obtain ⟨v9, -, hRB, -, p9, c9, rfl, -, -⟩ := hR2
                have y1 : wr.cell? ⟨c, 1, none⟩ = some (.int .u64 n2) := hRB.cell' (i := 1) (by rfl)
                have y2 : wr.cell? ⟨c, 2, none⟩ = some (.slice p9 e2.length c9) := hRB.cell' (i := 2) (by rfl)
                have y3 := hRB.lt
                clear FIN hRB
                go_wp2_with fail
                go_quiet ((first | (go_at_call 21; exact quiet' (sameBBq _ _ _ _ _ vs outs outs _ (Q1.chg0 ((Chg.refl NoB _).drewN _)) (V1.chg ((Chg.refl NoB _).drewN _) fun _ _ => id) (Q3.chg0 ((Chg.refl NoB _).drewN _)) ho ho true (by simp))) | (go_at_call 17; exact quiet0 (ackAt (hA2.chg ((Chg.refl NoB _).drewN _) fun _ _ => id))) | (go_at_call 18; exact quiet0 (earlyAt (hA2.chg ((Chg.refl NoB _).drewN _) fun _ _ => id))) | (go_at_call 19; exact quiet0 (rroomAt (hA2.chg ((Chg.refl NoB _).drewN _) fun _ _ => id)))))
                go_wp2_with fail
                go_roundg (ps.length - (k + 1))
                case measure => have := HK.out; omega
                case rel => exact ⟨k + 1, by have := HK.out; omega, by go_num, hk119, n2, e2, hB3.chg0 ((Chg.refl NoB _).drewN _), hk1, by omega, by omega⟩
      · obtain rfl : k = ps.length := by omega
        clear hcells
        go_wp2
        go_ret
        exact ⟨rfl, hC⟩
end Go.Proofs.Ytokigldggkkbcaa
