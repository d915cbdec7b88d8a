/- RecvOrder and what it needs: bodies as texts, the first of its tests, the law's loop. -/
import Derived.Test.YtokigldggkkbcaaRecv
import Derived.Laws.IdiomStrings
import Derived.Laws.BytesArg
import Derived.Lib.SlBytesConst
set_option linter.unusedVariables false
namespace Go.Proofs.Ytokigldggkkbcaa
open Go.RowKit Go.RR

theorem run_str {P : Program} {w : World} {S : Nat → Prop} {v : Value} {s : ByteArray} (src dst e : TypeId) (hs : P.underlying src = some (.slice e)) (he : P.underlying e = some (.int .u8)) (hd : P.underlying dst = some .string)
    (h : Sl w S 1 v s.size (byteCells s)) : (convert src dst v).run P w = .ok (.string s) w := by
  obtain ⟨hl, p, cap, rfl, hn, hc⟩ := h
  have hsz : s.size = s.data.toList.length := by cases s; rfl
  cases p with
  | none =>
    have h0 : s.size = 0 := by
      rcases Nat.eq_zero_or_pos s.size with h | h
      · exact h
      · obtain ⟨_, _, h, _⟩ := hc h; cases h
    have : s = ByteArray.empty := by
      cases s with
      | mk d => cases d with
        | mk l =>
          have : l = [] := List.eq_nil_of_length_eq_zero (by simpa using hsz.symm.trans h0)
          subst this; rfl
    rw [run_convert_bytes_nil w src e hs he s.size cap dst hd, this]
  | some a =>
    have hb := run_convert_bytes_back (P := P) w src dst e a cap s.data.toList hs he hd (fun j hj => by
      obtain ⟨g, off, ha, -, -, q⟩ := hc (by omega)
      cases ha
      rw [Addr.add_lit]
      exact q j _ (by simp [byteCells, List.getElem?_eq_getElem hj]))
    rw [← hsz] at hb
    simpa using hb

theorem str_ne {x y : ByteArray} (h : ¬ x = y) : (x.toList == y.toList) = false := by
  rw [beq_eq_false_iff_ne]
  intro e
  rw [ByteArray.toList_eq, ByteArray.toList_eq] at e
  apply h
  cases x; cases y
  exact congrArg ByteArray.mk (Array.toList_inj.1 e)

set_option maxHeartbeats 1000000 in
set_option maxRecDepth 100000 in
theorem sameBB (S1 S2 S3 : Nat → Prop) (v1 v2 : Value) (vs : List Value) (xs ys : List ByteArray) (w : World) (h1 : Sl w S1 1 v1 xs.length vs) (hB : Bodies w S2 vs xs) (h2 : Sl w S3 1 v2 ys.length (ys.map Value.string)) (hl : xs.length ≤ 1000000) (hl2 : ys.length ≤ 1000000) (r : Bool) (hr : r = decide (xs = ys)) :
    Calls Try.prog 21 #[v1, v2] w (RetW (.bool r) fun w' => Chg NoB w w') := by
  obtain ⟨p1, c1, rfl, hn1, hc1⟩ := h1.shape
  obtain ⟨p2, c2, rfl, hn2, hc2⟩ := h2.shape
  clear h1 h2
  by_cases hne : xs.length = ys.length
  · have hb : ((xs.length : Int) != (ys.length : Int)) = false := by simp; omega
    have HN := Lib.hid hne
    have HR := Lib.hid hr
    have HB := Lib.hid hB
    clear hne hr hB
    go_enter Try.func21, Try.ntmps21
    go_wp2
    go_loopg [13] xs.length (fun m i wr => ∃ k : Nat, k + m = xs.length ∧ i = .int .i64 k ∧ xs.take k = ys.take k ∧ Chg NoB w wr)
    case atStart => exact ⟨0, by omega, rfl, rfl, Chg.refl _ _⟩
    case round =>
      obtain ⟨k, hk, rfl, htk, C1⟩ := hrel
      have HT := Lib.hid htk
      have HK := Lib.hid hk
      have hkl : k ≤ xs.length := by omega
      clear htk hk
      by_cases hlt : k < xs.length
      · obtain ⟨g1, o1, rfl, -, -, q1⟩ := hc1 (by omega)
        obtain ⟨g2, o2, rfl, -, -, q2⟩ := hc2 (by have := HN.out; omega)
        have hlt2 : k < ys.length := by have := HN.out; omega
        have hx : xs[k]? = some xs[k] := List.getElem?_eq_getElem hlt
        have hy : ys[k]? = some ys[k] := List.getElem?_eq_getElem hlt2
        obtain ⟨u, hu, hsl⟩ := HB.out.get k _ hx
        have e1 := C1.cell (q1 k _ hu) id
        have e2 := C1.cell (q2 k _ (by rw [List.getElem?_map, hy]; rfl)) id
        have b1 : (k : Int) < xs.length := by omega
        have b2 : (k : Int) < ys.length := by omega
        have b0 : (0 : Int) ≤ k := by omega
        have hcv : ∀ n, (convert 22 9 u).run Try.prog (wr.drewN n) = .ok (.string xs[k]) (wr.drewN n) := fun n => run_str (P := Try.prog) 22 9 5 Try.underlying22 Try.underlying5 Try.underlying9 (hsl.chg0 (C1.drewN n))
        generalize hxx : xs[k] = x at *
        generalize hyy : ys[k] = y at *
        obtain ⟨pu, nu, cu, rfl⟩ : ∃ p n c, u = .slice p n c := by obtain ⟨_, p, c, h, _⟩ := hsl; exact ⟨p, _, c, h⟩
        have HX := Lib.hid hx
        have HY := Lib.hid hy
        clear hc1 hc2 q1 q2 hx hy hxx hyy hu hsl
        by_cases hxy : x = y
        · subst hxy
          go_wp2_with fail
          go_quiet (fail)
          go_wp2_with fail
          go_roundg (xs.length - (k + 1))
          case measure => have := HK.out; omega
          case rel => exact ⟨k + 1, by omega, by go_num, by rw [List.take_add_one, List.take_add_one, HT.out, HX.out, HY.out], C1.drewN _⟩
        · have hb1 := str_ne hxy
          have hb2 : (!x.toList == y.toList) = true := by rw [hb1]; rfl
          go_wp2_with fail
          go_quiet (fail)
          go_wp2
          go_ret
          refine ⟨?_, C1.drewN _⟩
          rw [HR.out]
          have : xs ≠ ys := fun e => hxy (by have := HX.out; rw [e, HY.out] at this; exact (Option.some.inj this).symm)
          simp [this]
      · obtain rfl : k = xs.length := by omega
        clear hc1 hc2
        go_wp2
        go_ret
        refine ⟨?_, C1⟩
        have := HT.out
        rw [List.take_length, HN.out, List.take_length] at this
        rw [HR.out]; simp [this]
  · have hb : ((xs.length : Int) != (ys.length : Int)) = true := by simp; omega
    go_enter Try.func21, Try.ntmps21
    go_wp2
    go_ret
    refine ⟨?_, Chg.refl _ _⟩
    rw [hr]
    have : xs ≠ ys := fun e => hne (by rw [e])
    simp [this]

/-- What the receiver is like in the law: apart from all that was there in w0. -/
def RecvIn (w0 w : World) (b : Nat) (room next : Int) (e : Early) : Prop := RecvAt (fun k => w0.heap.size ≤ k) w b room next e ∧ Chg NoB w0 w
theorem RecvIn.chg0 {w0 w w' : World} {b : Nat} {room next : Int} {e : Early} (h : RecvIn w0 w b room next e) (c : Chg NoB w w') : RecvIn w0 w' b room next e := ⟨h.1.chg c fun _ _ => id, h.2.then0 c⟩
theorem RecvIn.step {w0 w w' : World} {b : Nat} {room next n2 : Int} {e e2 : Early} (h : RecvIn w0 w b room next e) (r : RecvAt (Grow (fun k => w0.heap.size ≤ k) w) w' b room n2 e2) (c : Chg (fun k => w0.heap.size ≤ k) w w') : RecvIn w0 w' b room n2 e2 :=
  ⟨r.bound fun k _ hk => hk.elim id (Nat.le_trans h.2.size), h.2.trans c fun k hk h => absurd hk (Nat.not_lt.2 h)⟩

def sb (l : List UInt8) : ByteArray := ⟨l.toArray⟩
theorem fresh_body (w : World) (l : List UInt8) (fr : Nat × Nat) : Sl (w.alloc (.cells (l.map fun b => Value.int .u8 b.toNat).toArray 5 fr)) (fun k => k = w.heap.size) 1 (.slice (some ⟨w.heap.size, 0, none⟩) l.length l.length) (sb l).size (byteCells (sb l)) := by
  have h1 : (sb l).size = l.length := by simp [sb, ByteArray.size]
  have h2 : byteCells (sb l) = l.map fun b => Value.int .u8 b.toNat := by simp [sb, byteCells]
  rw [h1, h2]
  refine Sl.of (by simp) (Nat.le_refl _) rfl (by simp) (fun j u hu => ?_)
  rw [Nat.zero_add, cell_of_row _ _ _ _ _ _ (heap_alloc_new w _)]
  simpa using hu


set_option maxHeartbeats 1000000 in
set_option maxRecDepth 100000 in
theorem recv_first (w : World) : Calls Try.prog 14 #[] w (RetW (.bool true) fun w' => Chg NoB w w') := by
  have kc := fun (w : World) (C : Array Value) (n c : Nat) => Lib.run_convert_bytes_const (P := Try.prog) w 22 5 C n c Try.underlying22 Try.underlying5
  go_enter Try.func14, Try.ntmps14
  go_wp2_with fail
  refine (recvNew 1 _ (by decide) (by decide)).mono ?_
  rintro e w1 ⟨_, rfl, b, rfl, R1, C1⟩
  have I1 : RecvIn w w1 b 1 1 [] := ⟨R1, C1⟩
  clear R1 C1
  have A_w1 := (Chg.refl NoB w1).alloc (.cells #[.int .u8 98] 5 (1, 2))
  have F_w1 := fresh_body w1 [98] (1, 2)
  have J_w1 := I1.chg0 A_w1
  go_wp2_with fail
  refine (takeIn _ _ _ b 1 1 2 [] _ (sb [98]) J_w1.1 F_w1 (by decide) (by decide) (by decide) (by decide) (by decide) (by decide) (by decide) (by decide) (by decide) (by decide) [] 1 [(2, sb [98])] (by decide)).mono ?_
  rintro e w2 ⟨_, rfl, q2, vs2, rfl, R_w1, C2, O2, B2⟩
  have I2 := J_w1.step R_w1 C2
  clear R_w1 J_w1 F_w1 A_w1 I1
  have J2 := I2.chg0 ((Chg.refl NoB w2).alloc (.cells #[.int .u8 99] 5 (1, 2)))
  go_wp2_with fail
  refine (takeOut _ _ b 1 1 3 _ _ J2.1 (by decide) (by decide) (by decide) (by decide) (by decide) (by decide) (by decide)).mono ?_
  rintro e w3 ⟨rfl, C3⟩
  have I3 := J2.chg0 C3
  clear J2 I2
  have A_w3 := (Chg.refl NoB w3).alloc (.cells #[.int .u8 97] 5 (1, 2))
  have F_w3 := fresh_body w3 [97] (1, 2)
  have J_w3 := I3.chg0 A_w3
  go_wp2_with fail
  refine (takeIn _ _ _ b 1 1 1 [(2, sb [98])] _ (sb [97]) J_w3.1 F_w3 (by decide) (by decide) (by decide) (by decide) (by decide) (by decide) (by decide) (by decide) (by decide) (by decide) [sb [97], sb [98]] 3 [] (by decide)).mono ?_
  rintro e w4 ⟨_, rfl, q4, vs4, rfl, R_w3, C4, O4, B4⟩
  have I4 := J_w3.step R_w3 C4
  clear R_w3 J_w3 F_w3 A_w3 I3
  obtain ⟨p2, c2, rfl, -, -⟩ := O2.sl.shape
  have A4 := (Chg.refl NoB w4).alloc (.cells #[.string (sb [97]), .string (sb [98])] 9)
  have s4 := Sl.fresh (size := 1) w4 [.string (sb [97]), .string (sb [98])] 9 2 rfl
  have O5 := O4.sl.chg0 A4
  have B5 := B4.chg A4 fun _ _ => id
  have I5 := I4.chg0 A4
  go_wp2_with fail
  refine (sameBB _ _ _ _ _ _ [sb [97], sb [98]] [sb [97], sb [98]] _ O5 B5 s4 (by decide) (by decide) true (by decide)).mono ?_
  rintro e w6 ⟨rfl, C6⟩
  have I6 := I5.chg0 C6
  go_wp2_with fail
  refine (ackAt I6.1).mono ?_
  rintro e w7 ⟨rfl, rfl⟩
  go_wp2_with fail
  refine (earlyAt I6.1).mono ?_
  rintro e w8 ⟨rfl, rfl⟩
  go_wp2
  go_ret
  exact ⟨rfl, I6.2⟩
end Go.Proofs.Ytokigldggkkbcaa
