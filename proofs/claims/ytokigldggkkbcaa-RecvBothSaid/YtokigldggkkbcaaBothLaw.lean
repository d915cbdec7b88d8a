/- RecvBoth returns true, whatever it is given. -/
import Derived.Test.YtokigldggkkbcaaBothTake
import Derived.Test.YtokigldggkkbcaaSendFirst
import Derived.Deep.CutBlock
set_option linter.unusedVariables false
namespace Go.Proofs.Ytokigldggkkbcaa
open Go.RowKit Go.RR

theorem nb_cells' (a : Int) (h0 : 0 ≤ a) (h1 : a ≤ 255) : byteCells (nb a) = [.int .u8 a] ∧ (nb a).size = 1 := by
  obtain ⟨n, rfl⟩ := Int.eq_ofNat_of_zero_le h0
  have : (UInt8.ofNat n).toNat = n := by rw [UInt8.toNat_ofNat']; exact Nat.mod_eq_of_lt (by omega)
  refine ⟨?_, rfl⟩
  simp only [nb, sb, byteCells, Int.toNat_natCast, List.map_cons, List.map_nil, this]
/-- What is offered: so many bodies, each one byte. -/
def offs (n : Nat) : List ByteArray := (List.range n).map fun i : Nat => nb i
theorem offs_len (n : Nat) : (offs n).length = n := by simp [offs]
theorem offs_snoc (n : Nat) : offs n ++ [nb n] = offs (n + 1) := by simp [offs, List.range_succ]
theorem offs_at {n i : Nat} {s : ByteArray} (h : (offs n)[i]? = some s) : i < n ∧ s = nb i := by
  have := (List.getElem?_eq_some_iff.1 h).1
  rw [offs_len] at this
  refine ⟨this, ?_⟩
  simp [offs, this] at h
  exact h.symm
theorem offs_size (n : Nat) : ∀ s ∈ offs n, s.size ≤ 4120 := by
  intro s hs
  obtain ⟨i, -, rfl⟩ := List.mem_map.1 hs
  show (1 : Nat) ≤ 4120
  decide

theorem OutAt.item {w : World} {S : Nat → Prop} {q : Value} {outs : List (Int × ByteArray)} (h : OutAt w S q outs) {m : Nat} {seq : Int} {s : ByteArray} (hm : outs[m]? = some (seq, s)) :
    ∃ g off c p n, q = .slice (some ⟨g, off, none⟩) outs.length c ∧ outs.length ≤ c ∧ S g ∧ g < w.heap.size ∧ w.cell? ⟨g, off + m * 2, none⟩ = some (.int .u64 seq) ∧ w.cell? ⟨g, off + m * 2 + 1, none⟩ = some (.slice p s.size n) ∧ Sl w S 1 (.slice p s.size n) s.size (byteCells s) := by
  obtain ⟨S1, S2, vs, h1, h2, h3, h4⟩ := h
  obtain ⟨v, hv, hvs⟩ := h4.2 m s (by simp [hm])
  obtain ⟨p, n, rfl⟩ := hvs.form
  obtain ⟨g, off, c, e, hS, hg, hc', hc, -⟩ := h3.spot (by have := (List.getElem?_eq_some_iff.1 hm).1; omega)
  obtain ⟨a0, a1⟩ := icells_at outs _ m (seq, s) _ hm hv
  exact ⟨g, off, c, p, n, e, hc', (h1 g hS).1, hg, hc _ _ a0, by rw [Nat.add_assoc]; exact hc _ _ a1, hvs.sl.mono h2⟩
/-- What has been told is what was seen: the frame of the next body, once it comes for sure, tells it; no other does. -/
def Saw (told told2 k : Nat) (l : List (Int × ByteArray)) : Prop := ((∃ s, ((told : Int) + 1, s) ∈ l) → 500 ≤ k → told < told2) ∧ ((¬ ∃ s, ((told : Int) + 1, s) ∈ l) → told2 = told)
theorem Saw.start (told k : Nat) : Saw told told k [] := ⟨fun h => by obtain ⟨s, h⟩ := h; simp at h, fun _ => rfl⟩
theorem Saw.lost {told told2 k : Nat} {l : List (Int × ByteArray)} {p : Int × ByteArray} (h : Saw told told2 k l) (hk : ¬ 500 ≤ k) : Saw told told2 k (p :: l) :=
  ⟨fun _ h => absurd h hk, fun hn => h.2 fun ⟨s, hs⟩ => hn ⟨s, List.mem_cons_of_mem _ hs⟩⟩
theorem Saw.came {told told2 told3 k : Nat} {l : List (Int × ByteArray)} {n : Nat} {s : ByteArray} (h : Saw told told2 k l) (h0 : told ≤ told2) (h1 : told2 ≤ told3) (h2 : n = told → told < told3) (h3 : n ≠ told → told2 = told → told3 = told) : Saw told told3 k (((n : Int) + 1, s) :: l) := by
  refine ⟨fun ⟨s', hs⟩ hk => ?_, fun hn => ?_⟩
  · rcases List.mem_cons.1 hs with hs | hs
    · have := congrArg Prod.fst hs
      simp only at this
      exact h2 (by omega)
    · have := h.1 ⟨s', hs⟩ hk; omega
  · have hne : n ≠ told := by
      rintro rfl
      exact hn ⟨s, List.mem_cons_self ..⟩
    exact h3 hne (h.2 fun ⟨s', hs⟩ => hn ⟨s', List.mem_cons_of_mem _ hs⟩)
theorem drop_cons {α : Type} {l : List α} {m : Nat} {x : α} (h : l[m]? = some x) : l.drop m = x :: l.drop (m + 1) := by
  have hl := (List.getElem?_eq_some_iff.1 h).1
  rw [List.drop_eq_getElem_cons hl]
  rw [List.getElem?_eq_getElem hl] at h
  rw [Option.some.inj h]

theorem offs_told {want told j k : Nat} (hk : k < j) (h : told + j ≤ want) : (((offs want).drop told).take j)[k]? = some (nb ((told : Int) + k)) := by
  rw [List.getElem?_take_of_lt hk, List.getElem?_drop]
  simp [offs, show told + k < want by omega]
/-- Between two frames of one tick: so many are gone over. -/
def Mid (w0 w5 : World) (F : Nat → Prop) (br : Nat) (room : Int) (off : List ByteArray) (hi : Int) (told k : Nat) (rest : List (Int × ByteArray)) (told2 : Nat) (wx : World) : Prop :=
  ∃ e2 : Early, RIn w0 w5 F wx br room told2 e2 ∧ VB off (told2 + 2) hi e2 ∧ told ≤ told2 ∧ (told2 : Int) ≤ hi ∧ Saw told told2 k rest

theorem fillF_seq {window wait t : Int} : ∀ (line : List ByteArray) (fl : List Fl) (next : Int), ∀ p ∈ (fillF window wait t line fl next).1, p.1 < (fillF window wait t line fl next).2.2.2
  | [], fl, next, p, hp => by simp [fillF] at hp
  | b :: line, fl, next, p, hp => by
    unfold fillF at hp ⊢
    by_cases hlt : (fl.length : Int) < window
    · rw [if_pos hlt] at hp ⊢
      rcases List.mem_cons.1 hp with rfl | hp
      · obtain ⟨new, -, -, h, -⟩ := fillF_new (window := window) (wait := wait) (t := t) line (fl ++ [⟨next, b, t + wait, wait⟩]) (next + 1)
        simp only at h ⊢
        omega
      · exact fillF_seq line _ _ p hp
    · rw [if_neg hlt] at hp
      simp at hp

/-- Between two ticks. -/
def BInv (w0 : World) (bs br : Nat) (W room : Int) (want now k told : Nat) (wr : World) : Prop :=
  ∃ (c : Nat) (line : List ByteArray) (fl : List Fl) (next : Int) (e : Early) (Ss Sr : Nat → Prop), SendAt Ss wr bs W 2 6 line fl next ∧ RecvAt Sr wr br room (told + 1) e ∧ (∀ q, Ss q → (w0.heap.size ≤ q ∧ q < wr.heap.size) ∧ ¬ Sr q) ∧ (∀ q, Sr q → w0.heap.size ≤ q ∧ q < wr.heap.size) ∧ Chg NoB w0 wr ∧
    Flow (offs want) c line fl next ∧ VB (offs want) (told + 2) (next - 1) e ∧ c ≤ told ∧ (told : Int) ≤ next - 1 ∧ Pot now k told fl next ∧ (fl.length : Int) ≤ W ∧ k ≤ 80 * now

/-- While bodies are offered. -/
def BStart (w0 : World) (bs br : Nat) (W room : Int) (n : Nat) (wr : World) : Prop :=
  ∃ (Ss Sr : Nat → Prop), SendAt Ss wr bs W 2 6 (offs n) [] 1 ∧ RecvAt Sr wr br room 1 [] ∧ (∀ q, Ss q → (w0.heap.size ≤ q ∧ q < wr.heap.size) ∧ ¬ Sr q) ∧ (∀ q, Sr q → w0.heap.size ≤ q ∧ q < wr.heap.size) ∧ Chg NoB w0 wr
theorem BStart.inv {w0 : World} {bs br : Nat} {W room : Int} {n : Nat} {wr : World} (h : BStart w0 bs br W room n wr) (hW : 1 ≤ W) : BInv w0 bs br W room n 0 0 0 wr := by
  obtain ⟨Ss, Sr, h1, h2, h3, h4, h5⟩ := h
  refine ⟨0, offs n, [], 1, [], Ss, Sr, h1, by simpa using h2, h3, h4, h5, ⟨fun i f hf => by simp at hf, rfl, by simp, by simp⟩, trivial, Nat.le_refl _, by simp, Pot.start _, by simp; omega, by omega⟩

set_option maxHeartbeats 16000000 in
set_option maxRecDepth 100000 in
theorem recvBoth_any (h0 h1 nn : Int) (S0 : Nat → Prop) (sv : Value) (zs : List Int) (w : World) (b0 : 0 ≤ h0 ∧ h0 ≤ 255) (b1 : 0 ≤ h1 ∧ h1 ≤ 255) (b2 : 0 ≤ nn ∧ nn ≤ 255) (hs : Sl w S0 1 sv zs.length (zs.map (Value.int .u8))) (hz : ∀ z ∈ zs, 0 ≤ z ∧ z ≤ 255) (hlen : zs.length ≤ 9223372036854775807) :
    Calls Try.prog 13 #[.agg #[.int .u8 h0, .int .u8 h1], .int .u8 nn, sv] w (RetW (.bool true) fun w' => Chg NoB w w') := by
  obtain ⟨p, cap, rfl, hcap, hcells⟩ := hs.shape
  clear hs
  obtain ⟨b00, b01⟩ := b0
  obtain ⟨b10, b11⟩ := b1
  obtain ⟨b20, b21⟩ := b2
  obtain ⟨W, hW⟩ : ∃ W : Int, 1 + h0 % 8 = W := ⟨_, rfl⟩
  have hW1 : 1 ≤ W ∧ W ≤ 8 := by omega
  have HW := Lib.hid hW
  obtain ⟨room, hR⟩ : ∃ W : Int, h1 % 8 = W := ⟨_, rfl⟩
  have hR1 : 0 ≤ room ∧ room ≤ 7 := by omega
  have HR := Lib.hid hR
  obtain ⟨want, hwt⟩ : ∃ n : Nat, nn % 40 = n := ⟨(nn % 40).toNat, by omega⟩
  have hwt1 : want ≤ 39 := by omega
  have HWT := Lib.hid hwt
  have HZ := Lib.hid hz
  have HCE := Lib.hid hcells
  obtain ⟨hW2, hW3⟩ := hW1
  obtain ⟨hR2, hR3⟩ := hR1
  clear hW hR hwt hz hcells
  have A0 := (Chg.refl NoB w).alloc (.cells #[.int .u8 h0, .int .u8 h1] 106)
  have HB0 := Lib.hid (Blk.new w #[.int .u8 h0, .int .u8 h1] 106)
  go_enter Try.func13, Try.ntmps13
  go_wp2_with fail
  refine (recv_first _).mono ?_
  rintro e w1 ⟨rfl, C1⟩
  have hC1 := A0.step C1
  have hz1 := hC1.size
  have B1 := C1.blk0 HB0.out
  have x0 := B1.cell' (i := 0) (v := .int .u8 h0) (by rfl)
  have HB1 := Lib.hid B1
  have HC1 := Lib.hid hC1
  clear A0 C1 hC1 B1
  go_wp2_with fail
  rw [HW.out]
  refine (sendNew W 2 6 w1 (by unfold RightS; omega)).mono ?_
  rintro e w2 ⟨_, rfl, bs, rfl, G2, C2⟩
  have HG2 := Lib.hid G2
  have HC2 := Lib.hid C2
  have hz2 := C2.size
  have B2 := C2.blk0 HB1.out
  have x1 := B2.cell' (i := 1) (v := .int .u8 h1) (by rfl)
  clear G2 C2 B2 x0
  go_wp2_with fail
  rw [HR.out]
  refine (recvNew room w2 hR2 (by omega)).mono ?_
  rintro e w3 ⟨_, rfl, br, rfl, R3, C3⟩
  have hz3 := C3.size
  have HR3 := Lib.hid R3
  have HG2' := Lib.hid HG2.out
  have HCC := Lib.hid C3
  have HG3 := Lib.hid (HG2.out.chg0 C3)
  have HC3 := Lib.hid ((HC1.out.step HC2.out).step C3)
  clear R3 C3 HG2 x1
  go_wp2_with fail
  rw [HWT.out]
  have hS0 : BStart w bs br W room 0 w3 := by
    refine ⟨fun q => w1.heap.size ≤ q ∧ q < w2.heap.size, fun q => w2.heap.size ≤ q ∧ q < w3.heap.size, ?_, HR3.out.bound fun k a b => ⟨b, a⟩, fun q h => ⟨⟨by omega, by omega⟩, by omega⟩, fun q h => ⟨by omega, h.2⟩, HC3.out⟩
    refine (HG2'.out.bound (S' := fun q => w1.heap.size ≤ q ∧ q < w2.heap.size) fun k a b => ⟨b, a⟩).chg0 HCC.out
  clear HG3
  go_loopg [47] want (fun g ix wr => ∃ n : Nat, n + g = want ∧ ix = .int .i64 n ∧ BStart w bs br W room n wr)
  case atStart => exact ⟨0, by omega, rfl, hS0⟩
  case round =>
    obtain ⟨n, hn, rfl, hI⟩ := hrel
    have HN := Lib.hid hn
    have hnl : n ≤ want := by omega
    clear hn hS0
    by_cases hlt : n < want
    · obtain ⟨Ss, Sr, i1, i2, i3, i4, i5⟩ := hI
      have I1 := Lib.hid i1
      have I2 := Lib.hid i2
      have I3 := Lib.hid i3
      have I4 := Lib.hid i4
      have I5 := Lib.hid i5
      have n0 : (0 : Int) ≤ n := by omega
      obtain ⟨c1, c2⟩ := nb_cells' (n : Int) (by omega) (by omega)
      have A1 := (Chg.refl NoB wr).alloc (.cells #[.int .u8 n] 5)
      have F0 : Sl (wr.alloc (.cells #[.int .u8 n] 5)) (fun k => k = wr.heap.size) 1 (.slice (some ⟨wr.heap.size, 0, none⟩) 1 1) (nb n).size (byteCells (nb n)) := by
        rw [c1, c2]; exact Sl.fresh wr [.int .u8 n] 5 1 rfl
      have hA1 := A1.size
      have HA1 := Lib.hid A1
      have HF0 := Lib.hid F0
      clear i1 i2 i3 i4 i5 c1 c2 A1 F0
      go_wp2_with fail
      refine (offerAt (I1.out.chg0 HA1.out) _ (nb n) HF0.out (by show (1 : Nat) ≤ 4120; decide) (by rw [offs_len]; omega)).mono ?_
      rintro e w4 ⟨rfl, G4, C4⟩
      rw [offs_snoc] at G4
      have hz4 := C4.size
      have HG4 := Lib.hid G4
      have HC4 := Lib.hid C4
      clear G4 C4
      go_wp2_with fail
      go_roundg (want - (n + 1))
      case measure => have := HN.out; omega
      case rel =>
        refine ⟨n + 1, by have := HN.out; omega, by go_num, _, Sr, HG4.out.bound (S' := fun q => (Ss q ∨ wr.heap.size ≤ q) ∧ q < w4.heap.size) (fun q a b => ⟨b.elim .inl (fun h => .inr (by omega)), a⟩), (I2.out.chg HA1.out fun _ _ => id).chg HC4.out fun q hq e => (I3.out q e).2 hq, fun q hq => ?_, fun q hq => ?_, ?_⟩
        · rcases hq.1 with h | h
          · exact ⟨⟨(I3.out q h).1.1, hq.2⟩, (I3.out q h).2⟩
          · exact ⟨⟨by have := I5.out.size; omega, hq.2⟩, fun e => by have := (I4.out q e).2; omega⟩
        · exact ⟨(I4.out q hq).1, by have := (I4.out q hq).2; omega⟩
        · exact (I5.out.step HA1.out).trans HC4.out fun q hq e => by have := (I3.out q e).1.1; omega
    · obtain rfl : want = n := by omega
      have hB := hI.inv hW2
      clear hI
      go_wp2_with fail
      go_loopg [13, 14, 15] 4000 (fun g tv kv nv wr => ∃ now k told : Nat, now + g = 4000 ∧ tv = .int .i64 told ∧ kv = .int .i64 k ∧ nv = .int .i64 now ∧ BInv w bs br W room want now k told wr)
      case atStart => exact ⟨0, 0, 0, by omega, rfl, rfl, rfl, hB⟩
      case round =>
        obtain ⟨now, k, told, hnow, rfl, rfl, rfl, hI⟩ := hrel
        obtain ⟨c, line, fl, next, e, Ss, Sr, hG, hR, hGS, hRS, hC, hF, hV, hct, htn, hP, hfW, hk80⟩ := hI
        have hll := hF.lineLen
        have hnx := hF.hnext
        have hfn := hF.hlen
        rw [offs_len] at hll hfn
        have hnow1 : now ≤ 3234 := by have := hP.e1; omega
        have htw : told ≤ want := by omega
        have hk2 : k ≤ 258720 := by omega
        have t57 : decide ((now : Int) < 4000) = true := by simp; omega
        have t57' : decide (now < 4000) = true := by simp; omega
        have HNOW := Lib.hid hnow
        have HG := Lib.hid hG
        have HRA := Lib.hid hR
        have HGS := Lib.hid hGS
        have HRS := Lib.hid hRS
        have HC := Lib.hid hC
        have HFL := Lib.hid hF
        have HV := Lib.hid hV
        have HP := Lib.hid hP
        have HLL := Lib.hid hll
        have HNX := Lib.hid hnx
        have hct' := hct
        have hlen1 : fl.length ≤ 39 := by omega
        have hlen2 : line.length ≤ 39 := by omega
        clear hnow hG hR hGS hRS hC hF hV hP hll hnx hB
        by_cases hgo : told < want ∨ fl ≠ []
        · have HGO := Lib.hid hgo
          go_upto_region 13 with fail
          go_cut [67] (fun v wx => v = .bool true ∧ wx = wr)
          case first =>
            clear hgo
            by_cases h1 : told < want
            · have t61 : decide ((told : Int) < want) = true := by simp; omega
              have t61' : decide (told < want) = true := by simp; omega
              clear h1
              go_wp2_with fail
              go_meet
              exact ⟨rfl, rfl⟩
            · have t61 : decide ((told : Int) < want) = false := by simp; omega
              have t61' : decide (told < want) = false := by simp; omega
              have hne : 0 < fl.length := by
                rcases HGO.out with h | h
                · exact absurd h h1
                · exact List.length_pos_iff.2 h
              have t65 : decide ((0 : Int) < fl.length) = true := by simp; omega
              have t65' : decide (0 < fl.length) = true := by simp; omega
              clear h1
              go_wp2_with fail
              refine (flightAt HG.out).mono ?_
              rintro e' w6 ⟨rfl, rfl⟩
              go_wp2_with fail
              go_meet
              exact ⟨rfl, rfl⟩
          case rest =>
            obtain ⟨rfl, rfl⟩ := hcut
            obtain ⟨hFa, hgo1⟩ := HFL.out.again (longest := 6) now (by omega)
            obtain ⟨⟨o2, l2, f2, n2⟩, hres⟩ : ∃ x, fillF W 2 now line (fl.map (agF now 6)) next = x := ⟨_, rfl⟩
            have hfi := Flow.fill (window := W) (t := now) (wait := 2) (by omega) line _ next hFa (by rw [List.length_map]; exact hfW)
            have hse := fillF_seq (window := W) (t := now) (wait := 2) line (fl.map (agF now 6)) next
            have hfl2 := fillF_len W 2 now line (fl.map (agF now 6)) next
            obtain ⟨new, -, -, hn3, -⟩ := fillF_new (window := W) (wait := 2) (t := now) line (fl.map (agF now 6)) next
            rw [hres] at hfi hse hfl2 hn3
            simp only at hfi hse hfl2 hn3
            obtain ⟨hF2, hfw2, hgo2⟩ := hfi
            have hgood : ∀ q ∈ agOut now fl ++ o2, ∃ n : Nat, q.1 = n + 1 ∧ (offs want)[n]? = some q.2 ∧ q.1 ≤ n2 - 1 := by
              intro q hq
              rcases List.mem_append.1 hq with h | h
              · obtain ⟨n, -, h1, h2⟩ := hgo1 q h
                refine ⟨n, h1, h2, ?_⟩
                unfold agOut at h
                obtain ⟨f, hf, rfl⟩ := List.mem_map.1 h
                obtain ⟨i, hi⟩ := List.mem_iff_getElem?.1 (List.mem_filter.1 hf).1
                have := (HFL.out.hfl i f hi).1
                have := (List.getElem?_eq_some_iff.1 hi).1
                have := HNX.out
                simp only
                omega
              · obtain ⟨n, -, h1, h2⟩ := hgo2 q h
                exact ⟨n, h1, h2, by have := (hse q h); omega⟩
            have hout : (agOut now fl ++ o2).length ≤ 78 := by
              have h1 : (agOut now fl).length ≤ fl.length := by unfold agOut; rw [List.length_map]; exact List.length_filter_le _ _
              rw [List.length_append]; omega
            have hF2l := hF2.hnext
            have hF2h := hF2.hlen
            rw [offs_len] at hF2h
            have hn2a : next ≤ n2 := by omega
            have hn2b : n2 - 1 ≤ want := by omega
            have HF2 := Lib.hid hF2
            have HRES := Lib.hid hres
            have HGOOD := Lib.hid hgood
            clear hFa hgo1 hgo2 hgood hres hF2 hse hfl2 hn3 hF2l hgo
            go_wp2_with fail
            refine (outStep HG.out now now (by unfold clampT; omega) (HFL.out.flOk (offs_size _)) (HFL.out.lineOk (offs_size _)) (by unfold RightS; omega) (by omega) (by omega) (by have := HNX.out; omega) o2 l2 f2 n2 HRES.out).mono ?_
            rintro e' w5 ⟨q5, rfl, S3, X3, G5, O5, HX5, HS5, C5⟩
            have hz5 := C5.size
            have R5 := HRA.out.chg C5 fun q hq e => (HGS.out q e).2 hq
            have HC5 := Lib.hid (HC.out.trans C5 fun q hq e => by have := (HGS.out q e).1.1; omega)
            have hz0 := HC.out.size
            obtain ⟨outs, hou⟩ : ∃ outs, agOut now fl ++ o2 = outs := ⟨_, rfl⟩
            rw [hou] at O5 hout
            have HGOOD := Lib.hid (hou ▸ HGOOD.out)
            have HOU := Lib.hid hou
            have O5 := O5.bound (S' := fun k => X3 k ∧ k < w5.heap.size) fun k a b => ⟨b, a⟩
            have hF5 : ∀ q, ((S3 q ∨ X3 q) ∧ q < w5.heap.size) → q < w5.heap.size := fun q h => h.2
            have hM : Mid w w5 (fun q => (S3 q ∨ X3 q) ∧ q < w5.heap.size) br room (offs want) (n2 - 1) told k [] told w5 := by
              refine ⟨e, ⟨⟨Sr, R5, fun q hq => ⟨(HRS.out q hq).1, fun h => ?_⟩⟩, Chg.refl _ _⟩, HV.out.wide (Int.le_refl _) (by omega), Nat.le_refl _, by omega, Saw.start _ _⟩
              have h1 := HRS.out q hq
              rcases h.1 with h | h
              · rcases HS5 q h with h | h
                · exact (HGS.out q h).2 hq
                · omega
              · have := (HX5 q h).2; omega
            obtain ⟨p5, c5, rfl⟩ : ∃ p c, q5 = .slice p outs.length c := by obtain ⟨S1, S2, vs, -, -, h, -⟩ := O5; exact h.form
            have HO5 := Lib.hid O5
            have HG5 := Lib.hid G5
            have HX5 := Lib.hid HX5
            have HS5 := Lib.hid HS5
            generalize hFF : (fun q => (S3 q ∨ X3 q) ∧ q < w5.heap.size) = F at *
            have HFF := Lib.hid hFF
            have HF5 : Hid (∀ q, F q → q < w5.heap.size) := Lib.hid (by intro q hq; rw [← hFF] at hq; exact hq.2)
            clear G5 O5 C5 R5 hou hF5 hFF
            go_wp2_with fail
            go_loopg [13, 14, 75] outs.length (fun g tv kv ix wx => ∃ (j K told2 : Nat), j + g = outs.length ∧ K = k + j ∧ tv = .int .i64 told2 ∧ kv = .int .i64 K ∧ ix = .int .i64 j ∧ Mid w w5 F br room (offs want) (n2 - 1) told k (outs.drop (outs.length - j)) told2 wx)
            case atStart => exact ⟨0, k, told, by omega, rfl, rfl, rfl, rfl, by simpa using hM⟩
            case round =>
              obtain ⟨j, K, told2, hj, hK, rfl, rfl, rfl, hMd⟩ := hrel
              clear hM
              have HJ := Lib.hid hj
              have HK := Lib.hid hK
              have hjl : j ≤ outs.length := by omega
              have hKb : K ≤ 258800 := by omega
              have hKk : k ≤ K := by omega
              clear hj hK
              obtain ⟨e2, hRI, hVe, ht2, ht2h, hSaw⟩ := hMd
              have HRI := Lib.hid hRI
              have HVE := Lib.hid hVe
              have HSAW := Lib.hid hSaw
              clear hRI hVe hSaw
              by_cases hltj : j < outs.length
              · obtain ⟨m, hm⟩ : ∃ m : Nat, (outs.length : Int) - 1 - j = m := ⟨outs.length - 1 - j, by omega⟩
                have hml : m < outs.length := by omega
                have HML : Hid (m + 1 = outs.length - j) := Lib.hid (by omega)
                obtain ⟨⟨seq, s⟩, hp⟩ : ∃ p, outs[m]? = some p := ⟨outs[m], by simp [hml]⟩
                obtain ⟨n, hsq, hno, hnh⟩ := HGOOD.out _ (List.mem_of_getElem? hp)
                simp only at hsq hno hnh
                subst hsq
                obtain ⟨hnw, rfl⟩ := offs_at hno
                obtain ⟨cc1, cc2⟩ := nb_cells' (n : Int) (by omega) (by omega)
                have hFk : ∀ q, X3 q ∧ q < w5.heap.size → ¬ (w.heap.size ≤ q ∧ ¬ F q) := fun q h e => e.2 (by rw [← HFF.out]; exact ⟨.inr h.1, h.2⟩)
                obtain ⟨g5, o5, c5', ps, cs, e5, hcap5, -, hg5, k0, k1, ks⟩ := (HO5.out.chg HRI.out.2 hFk).item hp
                cases e5
                rw [cc2] at k1
                have HKS := Lib.hid ks
                have HP2 := Lib.hid hp
                have HNO := Lib.hid hno
                have hpos : (1 : Int) ≤ outs.length := by omega
                have j0 : (0 : Int) ≤ j := by omega
                have m0 : (0 : Int) ≤ m := by omega
                have m1 : (m : Int) < outs.length := by omega
                clear hp hno ks hFk cc1 cc2
                go_upto_region 21 with fail
                clear hm
                obtain ⟨rb, hrb⟩ : ∃ rb : Bool, decide (K < zs.length ∧ K < 500) = rb := ⟨_, rfl⟩
                have HRB := Lib.hid hrb
                clear hrb
                have A6 := (Chg.refl NoB wr).alloc (.cells #[.int .u64 (n + 1), .slice ps 1 cs] 100)
                have HRI6 := Lib.hid (HRI.out.enter (.cells #[.int .u64 (n + 1), .slice ps 1 cs] 100))
                have HSL6 := Lib.hid (HKS.out.chg0 A6)
                have HCF6 := Lib.hid (HRI.out.2.then0 A6)
                have HB6 := Lib.hid (Blk.new wr #[.int .u64 (n + 1), .slice ps 1 cs] 100)
                have hz6 : wr.heap.size < (wr.alloc (.cells #[.int .u64 (n + 1), .slice ps 1 cs] 100)).heap.size := by simp
                generalize hw6 : wr.alloc (.cells #[.int .u64 (n + 1), .slice ps 1 cs] 100) = w6 at *
                have hwr5 := HRI.out.2.size
                clear k0 k1 A6 hw6
                go_cut [93] (fun v wx => v = .bool rb ∧ wx = w6)
                case first =>
                  by_cases h1 : K < zs.length
                  · have q1 : decide ((K : Int) < zs.length) = true := by simp; omega
                    have q1' : decide (K < zs.length) = true := by simp; omega
                    by_cases h2 : K < 500
                    · have q2 : decide ((K : Int) < 500) = true := by simp; omega
                      have q2' : decide (K < 500) = true := by simp; omega
                      obtain rfl : rb = true := by rw [← HRB.out]; simp [h1, h2]
                      clear h1 h2
                      go_wp2_with fail
                      go_meet
                      exact ⟨rfl, rfl⟩
                    · have q2 : decide ((K : Int) < 500) = false := by simp; omega
                      have q2' : decide (K < 500) = false := by simp; omega
                      obtain rfl : rb = false := by rw [← HRB.out]; simp [h2]
                      clear h1 h2
                      go_wp2_with fail
                      go_meet
                      exact ⟨rfl, rfl⟩
                  · have q1 : decide ((K : Int) < zs.length) = false := by simp; omega
                    have q1' : decide (K < zs.length) = false := by simp; omega
                    obtain rfl : rb = false := by rw [← HRB.out]; simp [h1]
                    clear h1
                    go_wp2_with fail
                    go_meet
                    exact ⟨rfl, rfl⟩
                case rest =>
                  obtain ⟨rfl, hw⟩ := hcut
                  obtain rfl := hw.symm
                  go_upto_if 93 with fail
                  go_cut [19] (fun v wx => ∃ f : Int, v = .int .u8 f ∧ 0 ≤ f ∧ f ≤ 255 ∧ (500 ≤ k → f = 0) ∧ wx = w6)
                  case first =>
                    cases rb
                    · go_wp2_with fail
                      go_meet
                      exact ⟨0, rfl, by omega, by omega, fun _ => rfl, rfl⟩
                    · have hKK := of_decide_eq_true HRB.out
                      obtain ⟨hK1, hK2⟩ := hKK
                      obtain ⟨g0, o0, rfl, -, hg0, q0⟩ := HCE.out (by omega)
                      obtain ⟨z, hzk⟩ : ∃ z, zs[K]? = some z := ⟨zs[K], by simp [hK1]⟩
                      obtain ⟨z0, z1⟩ := HZ.out z (List.mem_of_getElem? hzk)
                      have hzc := HCF6.out.cell (HC5.out.cell (q0 K (.int .u8 z) (by rw [List.getElem?_map, hzk]; rfl)) id) (fun e => absurd e.1 (by show ¬ w.heap.size ≤ g0; omega))
                      have K0 : (0 : Int) ≤ K := by omega
                      have K1 : (K : Int) < zs.length := by omega
                      clear q0 hzk
                      go_wp2_with fail
                      go_meet
                      exact ⟨z, rfl, z0, z1, fun _ => by omega, rfl⟩
                  case rest =>
                    obtain ⟨f, rfl, f0, f1, hf5, hw⟩ := hcut
                    obtain rfl := hw.symm
                    have HF5b := Lib.hid hf5
                    clear hf5
                    have hlj : outs.drop (outs.length - (j + 1)) = ((n : Int) + 1, nb n) :: outs.drop (outs.length - j) := by
                      have := HML.out
                      rw [show outs.length - (j + 1) = m by omega, show outs.length - j = m + 1 by omega]
                      exact drop_cons HP2.out
                    have HLJ := Lib.hid hlj
                    clear hlj
                    by_cases hl : f % 3 = 1
                    · have q3 : (f % 3 == 1) = true := by simp [hl]
                      have HL := Lib.hid hl
                      clear hl
                      go_wp2_with fail
                      go_roundg (outs.length - (j + 1))
                      case measure => have := HJ.out; omega
                      case rel =>
                        refine ⟨j + 1, K + 1, told2, by have := HJ.out; omega, by have := HK.out; omega, rfl, by go_num, by go_num, e2, HRI6.out.leave (fun q h => .inl h) HCF6.out, HVE.out, ht2, ht2h, ?_⟩
                        rw [HLJ.out]
                        exact HSAW.out.lost fun hk => by have := HF5b.out hk; have := HL.out; omega
                    · have q3 : (f % 3 == 1) = false := by simp [hl]
                      obtain ⟨M, hM⟩ : ∃ M : Nat, 1 + f % 2 = M := ⟨(1 + f % 2).toNat, by omega⟩
                      have hM1 : 1 ≤ M ∧ M ≤ 2 := by omega
                      obtain ⟨hM1, hM2⟩ := hM1
                      have HMM := Lib.hid hM
                      clear hl hM
                      go_wp2_with fail
                      rw [HMM.out]
                      go_loopg [13, 107] M (fun g tv ix wx => ∃ (m1 told3 : Nat) (e3 : Early), m1 + g = M ∧ tv = .int .i64 told3 ∧ ix = .int .i64 m1 ∧ RIn w w6 (fun q => F q ∨ q = wr.heap.size) wx br room told3 e3 ∧ VB (offs want) (told3 + 2) (n2 - 1) e3 ∧ told2 ≤ told3 ∧ (told3 : Int) ≤ n2 - 1 ∧ (0 < m1 → n = told → told < told3) ∧ (n ≠ told → told2 = told → told3 = told))
                      case atStart => exact ⟨0, told2, e2, by omega, rfl, rfl, HRI6.out, HVE.out, Nat.le_refl _, ht2h, by omega, fun _ h => h⟩
                      case round =>
                        obtain ⟨m1, told3, e3, hm1, rfl, rfl, hRI3, hV3, ht3, ht3h, hA3, hB3⟩ := hrel
                        have HM1 := Lib.hid hm1
                        have hmM : m1 ≤ M := by omega
                        have hwx5 := hRI3.2.size
                        have HRI3 := Lib.hid hRI3
                        have HV3 := Lib.hid hV3
                        have HA3 := Lib.hid hA3
                        have HB3 := Lib.hid hB3
                        clear hm1 hRI3 hV3 hA3 hB3
                        by_cases hltm : m1 < M
                        · have B7 := HRI3.out.2.blk HB6.out (fun e => e.2 (.inr rfl))
                          rename World => wx
                          have y0 := B7.cell' (i := 0) (v := .int .u64 ((n : Int) + 1)) (by rfl)
                          have y1 := B7.cell' (i := 1) (v := .slice ps 1 cs) (by rfl)
                          have hbl := B7.lt
                          have hv7 : Sl wx (fun k => X3 k ∧ k < w5.heap.size) 1 (.slice ps 1 cs) (nb n).size (byteCells (nb n)) := by
                            have h := HSL6.out.chg HRI3.out.2 fun q h e => e.2 (.inl (by rw [← HFF.out]; exact ⟨.inr h.1, h.2⟩))
                            exact h
                          have HV7 := Lib.hid hv7
                          have m10 : (0 : Int) ≤ m1 := by omega
                          clear B7 hv7
                          go_wp2_with fail
                          refine (takeBoth (.slice ps 1 cs) (nb n) HRI3.out (fun q h => h.elim (fun h => by have := HF5.out q h; omega) (fun h => by omega)) HV3.out HV7.out HNO.out hnh (by rw [offs_len]; omega) (by rw [offs_len]; omega) (by show (1 : Nat) ≤ 4120; decide) hR2 (by omega) ht3h).mono ?_
                          rintro e' w8 ⟨_, rfl, q8, ok8, vs8, j2, e4, S8, T8, rfl, hRI8, hV8, hsl8, hbo8, hjh, hj1, hj2⟩
                          obtain ⟨hvl, p8, c8, rfl, -, hc8⟩ := hsl8
                          have HRI8 := Lib.hid hRI8
                          have HV8 := Lib.hid hV8
                          have HBO := Lib.hid hbo8
                          have HC8 := Lib.hid hc8
                          have HJ1 := Lib.hid hj1
                          have HJ2 := Lib.hid hj2
                          have hj2b : told3 + j2 ≤ want := by omega
                          clear hRI8 hV8 hbo8 hc8 hj1 hj2 hvl y0 y1 hbl
                          go_wp2_with fail
                          go_loopg [13, 120] j2 (fun g tv ix wy => ∃ k2 : Nat, k2 + g = j2 ∧ ix = .int .i64 k2 ∧ tv = .int .i64 (told3 + k2 : Nat) ∧ w8 = wy)
                          case atStart => exact ⟨0, by omega, rfl, rfl, rfl⟩
                          case round =>
                            obtain ⟨k2, hkm, rfl, rfl, rfl⟩ := hrel
                            have HKM := Lib.hid hkm
                            have hk2 : k2 ≤ j2 := by omega
                            clear hkm
                            by_cases hl2 : k2 < j2
                            · obtain ⟨g9, o9, rfl, -, -, q9⟩ := HC8.out (by omega)
                              obtain ⟨u, hu, hsl⟩ := HBO.out.get k2 (nb ((told3 : Int) + k2)) (offs_told hl2 (by omega))
                              have hcu := q9 k2 u hu
                              obtain ⟨cc1, cc2⟩ := nb_cells' ((told3 : Int) + k2) (by omega) (by omega)
                              rw [cc1, cc2] at hsl
                              obtain ⟨-, p10, c10, rfl, hn10, hc10⟩ := hsl
                              obtain ⟨g10, o10, rfl, -, -, q10⟩ := hc10 (by omega)
                              have hb10 : w8.cell? ⟨g10, o10, none⟩ = some (.int .u8 ((told3 : Int) + k2)) := q10 0 _ rfl
                              have l0 : (0 : Int) ≤ k2 := by omega
                              have l1 : (k2 : Int) < j2 := by omega
                              have hnk : (told3 : Int) + k2 ≤ 40 := by omega
                              clear hu q9 hc10 q10 cc1 cc2
                              go_wp2_with fail
                              go_roundg (j2 - (k2 + 1))
                              case measure => have := HKM.out; omega
                              case rel => exact ⟨k2 + 1, by have := HKM.out; omega, by go_num, by go_num, rfl⟩
                            · obtain rfl : j2 = k2 := by have := HKM.out; omega
                              go_wp2_with fail
                              go_roundg (M - (m1 + 1))
                              case measure => have := HM1.out; omega
                              case rel =>
                                refine ⟨m1 + 1, told3 + j2, e4, by have := HM1.out; omega, rfl, by go_num, HRI8.out, HV8.out, by omega, by omega, fun _ hn => ?_, fun hn h => ?_⟩
                                · by_cases h3 : told3 = told
                                  · have := HJ1.out (by omega); omega
                                  · omega
                                · have h3 := HB3.out hn h
                                  have := HJ2.out (by omega); omega
                        · obtain rfl : M = m1 := by omega
                          go_wp2_with fail
                          go_roundg (outs.length - (j + 1))
                          case measure => have := HJ.out; omega
                          case rel =>
                            refine ⟨j + 1, K + 1, told3, by have := HJ.out; omega, by have := HK.out; omega, rfl, by go_num, by go_num, e3, HRI3.out.leave (fun q h => .inl h) HCF6.out, HV3.out, by omega, ht3h, ?_⟩
                            rw [HLJ.out]
                            exact HSAW.out.came ht2 ht3 (HA3.out (by omega)) HB3.out
              · obtain rfl : j = outs.length := by have := HJ.out; omega
                rename World => wx
                obtain ⟨⟨S6, hR6, hS6⟩, hC6⟩ := HRI.out
                have hz6 := hC6.size
                have hpt := Pot.tick HP.out HFL.out HF2.out hW2 hct htn HRES.out (by rw [offs_len]; exact HGO.out) ht2 ht2h (by rw [HOU.out]; have := HSAW.out.1; rwa [Nat.sub_self, List.drop_zero] at this) (by rw [HOU.out]; have := HSAW.out.2; rwa [Nat.sub_self, List.drop_zero] at this)
                rw [HOU.out] at hpt
                have HPT := Lib.hid hpt
                have HR6 := Lib.hid (hR6.bound (S' := fun q => S6 q ∧ q < wx.heap.size) fun k a b => ⟨b, a⟩)
                have HG6 := Lib.hid ((HG5.out.bound (S' := fun q => S3 q ∧ q < w5.heap.size) fun k a b => ⟨b, a⟩).chg hC6 fun q h e => e.2 (by rw [← HFF.out]; exact ⟨.inl h.1, h.2⟩))
                have HC6 := Lib.hid (HC5.out.trans hC6 fun q hq e => by have := e.1; omega)
                have HGR : Hid (∀ q, (S3 q ∧ q < w5.heap.size) → (w.heap.size ≤ q ∧ q < wx.heap.size) ∧ ¬ (S6 q ∧ q < wx.heap.size)) := Lib.hid fun q h => ⟨⟨by
                  rcases HS5.out q h.1 with h | h
                  · exact (HGS.out q h).1.1
                  · omega, by omega⟩, fun e => (hS6 q e.1).2 (by rw [← HFF.out]; exact ⟨.inl h.1, h.2⟩)⟩
                have HRR : Hid (∀ q, (S6 q ∧ q < wx.heap.size) → w.heap.size ≤ q ∧ q < wx.heap.size) := Lib.hid fun q h => ⟨(hS6 q h.1).1, h.2⟩
                have HW2 := Lib.hid hfw2
                have hfl2 : f2.length ≤ 100 := by omega
                clear hpt hR6 hS6 hC6
                by_cases hev : now % 2 = 0
                · have q9 : ((now : Int) % 2 == 0) = true := by simp; omega
                  have q9' : (now % 2 == 0) = true := by simp; omega
                  have HEV := Lib.hid hev
                  clear hev
                  go_wp2_with fail
                  refine (ackAt HR6.out).mono ?_
                  rintro e' w8 ⟨rfl, rfl⟩
                  go_wp2_with fail
                  refine (ackedAt HG6.out (by omega) ((told2 : Int) + 1) _ rfl).mono ?_
                  rintro e' w8 ⟨rfl, G8, C8⟩
                  have hz8 := C8.size
                  obtain ⟨c8, F8, hc8, hsub8⟩ := HF2.out.ackedLe told2 (by omega) ht2h
                  have hp8 := HPT.out
                  rw [if_pos HEV.out] at hp8
                  have hl8 : (ackF (told2 + 1) n2 f2).length ≤ f2.length := by
                    unfold ackF
                    split
                    · exact Nat.le_refl _
                    · exact List.length_filter_le _ _
                  generalize hac : ackF ((told2 : Int) + 1) n2 f2 = f8 at *
                  have HX := Lib.hid (And.intro G8 (And.intro C8 (And.intro F8 (And.intro hc8 (And.intro hp8 hl8)))))
                  clear G8 C8 F8 hc8 hp8 hl8 hsub8 hac
                  go_wp2_with fail
                  go_roundg (4000 - (now + 1))
                  case measure => have := HNOW.out; omega
                  case rel =>
                    obtain ⟨G8, C8, F8, hc8, hp8, hl8⟩ := HX.out
                    refine ⟨now + 1, K, told2, by have := HNOW.out; omega, rfl, rfl, by go_num, c8, l2, f8, n2, e2, _, _, G8, HR6.out.chg C8 fun q h e => (HGR.out q e).2 h, fun q h => ⟨⟨(HGR.out q h).1.1, by have := (HGR.out q h).1.2; omega⟩, (HGR.out q h).2⟩, fun q h => ⟨(HRR.out q h).1, by have := (HRR.out q h).2; omega⟩, HC6.out.trans C8 fun q hq e => by have := (HGR.out q e).1.1; omega, F8, HVE.out, hc8, ht2h, ?_, by omega, by have := HK.out; omega⟩
                    rw [show K = k + outs.length from HK.out]
                    exact hp8
                · have q9 : ((now : Int) % 2 == 0) = false := by simp; omega
                  have q9' : (now % 2 == 0) = false := by simp; omega
                  have hp8 := HPT.out
                  rw [if_neg hev] at hp8
                  have HP8 := Lib.hid hp8
                  clear hev hp8
                  go_wp2_with fail
                  go_roundg (4000 - (now + 1))
                  case measure => have := HNOW.out; omega
                  case rel =>
                    refine ⟨now + 1, K, told2, by have := HNOW.out; omega, rfl, rfl, by go_num, c, l2, f2, n2, e2, _, _, HG6.out, HR6.out, HGR.out, HRR.out, HC6.out, HF2.out, HVE.out, by omega, ht2h, ?_, HW2.out, by have := HK.out; omega⟩
                    rw [show K = k + outs.length from HK.out]
                    exact HP8.out
        · have h1 : ¬ told < want := fun h => hgo (.inl h)
          have h2 : fl = [] := Classical.byContradiction fun h => hgo (.inr h)
          subst h2
          have h3 : line.length = 0 := by have := HLL.out; have := HNX.out; simp only [List.length_nil] at *; omega
          obtain rfl : line = [] := List.eq_nil_of_length_eq_zero h3
          obtain rfl : want = told := by omega
          clear hgo h1 h3
          go_wp2_with fail
          refine (flightAt HG.out).mono ?_
          rintro e' w6 ⟨rfl, rfl⟩
          go_wp2_with fail
          refine (flightAt HG.out).mono ?_
          rintro e' w6 ⟨rfl, rfl⟩
          go_wp2_with fail
          refine (lineAt HG.out).mono ?_
          rintro e' w6 ⟨rfl, rfl⟩
          go_wp2_with fail
          go_ret
          exact ⟨rfl, HC.out⟩
end Go.Proofs.Ytokigldggkkbcaa
