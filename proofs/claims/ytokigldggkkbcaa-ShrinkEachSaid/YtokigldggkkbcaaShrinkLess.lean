/- Shrinking: less, Steps, Shrink: what each answers, and what it leaves. -/
import Derived.Test.YtokigldggkkbcaaShrink
set_option linter.unusedVariables false
namespace Go.Proofs.Ytokigldggkkbcaa
open Go.RowKit Go.RR

theorem woF_map {α β : Type} (f : α → β) (zs : List α) (a s : Nat) (h : 0 < s) : woF (zs.map f) a s = (without zs a s).map f := by
  unfold woF without
  rw [if_neg (by omega)]
  simp

def n_LessRes (w w' : World) (v q : Value) (ok : Bool) : Option (List Int) → Prop
  | none => ok = false ∧ q = v
  | some ws => ok = true ∧ Own w' (fun k => w.heap.size ≤ k) 3 1 q ws.length (ws.map (Value.int .i64))

set_option maxHeartbeats 1000000 in
set_option maxRecDepth 100000 in
theorem n_less {g : Nat} {fst lb : Array Value} {p : List Int → Bool} {B H : Nat} {S Sl' : Nat → Prop} {I : Nat → World → Prop} (h : Asks g fst lb 3 (Value.int .i64) p B H S I) (w : World) (b n m : Nat) (v : Value) (zs : List Int) (c : Nat) (res : Option (List Int)) (cnt : Nat)
    (hB : Blk w b #[.func (.func g) fst lb, .int .i64 n] 126) (hb : H ≤ b) (hI : I m w) (hH : H ≤ w.heap.size) (hz : zs.length ≤ 200) (hz0 : 0 < zs.length) (hc : 1 ≤ c) (hc2 : c ≤ 100000) (hm : m + zs.length ≤ B) (hn : n ≤ 900000000) (hs : Sl w Sl' 1 v zs.length (zs.map (Value.int .i64))) (hsb : ∀ k, Sl' k → k ≠ b ∧ ¬ S k)
    (hres : lessF p zs (partsOf zs.length (min c zs.length)) 0 = (res, cnt)) :
    Calls Try.prog 78 #[.pointer (some ⟨b, 0, none⟩), v, .int .i64 c] w (RetV fun r w' => ∃ q ok, r = .tuple #[q, .bool ok] ∧ n_LessRes w w' v q ok res ∧ Blk w' b #[.func (.func g) fst lb, .int .i64 (n + cnt : Nat)] 126 ∧ I (m + cnt) w' ∧ Chg (fun k => S k ∨ k = b) w w') := by
  obtain ⟨k, hk⟩ : ∃ k, min c zs.length = k := ⟨_, rfl⟩
  have HRES := Lib.hid hres
  have hkc : (k : Int) = min (max (c : Int) 1) zs.length := by omega
  have hkz : k ≤ zs.length := by omega
  have hk0 : 0 < k := by omega
  have HK := Lib.hid hk
  have HB := Lib.hid hB
  have HS := Lib.hid hs
  obtain ⟨pv, cv, rfl⟩ : ∃ p c, v = .slice p zs.length c := by obtain ⟨-, p, c, e, -⟩ := hs; exact ⟨p, c, e⟩
  have hsp := n_split Sl' w (.slice pv zs.length cv) c zs.length k (zs.map (Value.int .i64)) hs (by simp [Value.oneCell']) (by omega) hkc
  have HSP := Lib.hid hsp
  clear hk hres hs hB hsp hkc
  go_enter Try.func78, Try.ntmps78
  go_wp2_with fail
  refine HSP.out.mono ?_
  rintro e w1 ⟨q1, rfl, vs, O1, R1, C1⟩
  obtain ⟨g1, off1, cap1, rfl, hcell1⟩ : ∃ g off cap, q1 = .slice (some ⟨g, off, none⟩) k cap ∧ ∀ j u, vs[j]? = some u → w1.cell? ⟨g, off + j, none⟩ = some u ∧ w.heap.size ≤ g := by
    obtain ⟨-, p, c, e, hn, h2⟩ := O1.sl
    obtain ⟨g, off, rfl, h3, h4, h5⟩ := h2 hk0
    exact ⟨g, off, c, e, fun j u hu => ⟨h5 j u hu, h3⟩⟩
  have hbl := HB.out.lt
  have B1 := C1.blk0 HB.out
  have hI1 := h.keep m w w1 hI hH (C1.mono fun _ _ h => h.elim)
  have hz1 := C1.size
  have HC1 := Lib.hid hcell1
  have HR1 := Lib.hid R1
  have HB1 := Lib.hid B1
  have hvs : vs.length = k := by have := O1.1; omega
  have HVS := Lib.hid hvs
  have HS1 := Lib.hid (HS.out.chg0 C1)
  clear hcell1 R1 B1 O1 hI HSP hvs
  go_wp2_with fail
  go_loopg [8, 16] k (fun r at_ ix wr => ∃ i : Nat, i + r = k ∧ ix = .int .i64 i ∧ at_ = .int .i64 (partOff zs.length k i : Nat) ∧ ∃ c' : Nat, lessF p zs ((partsOf zs.length k).drop i) (partOff zs.length k i) = (res, c') ∧ i + c' = cnt ∧
    Blk wr b #[.func (.func g) fst lb, .int .i64 (n + i : Nat)] 126 ∧ I (m + i) wr ∧ Chg (fun k => S k ∨ k = b) w1 wr)
  case atStart => exact ⟨0, by omega, rfl, by rw [partOff_zero]; rfl, cnt, by rw [partOff_zero, List.drop_zero, ← HRES.out, HK.out], by omega, HB1.out, hI1, Chg.refl _ _⟩
  case round =>
    obtain ⟨i, hi, rfl, rfl, c', hre, hic, hB2, hI2, C2⟩ := hrel
    have HI := Lib.hid hi
    have hik : i ≤ k := by omega
    have HRE := Lib.hid hre
    have HB2 := Lib.hid hB2
    have CC : Chg (fun k => S k ∨ k = b) w wr := (C1.mono (S' := fun k => S k ∨ k = b) fun _ _ h => h.elim).trans C2 fun _ _ h => h
    have hzr := C2.size
    clear hi hre hB2 HB1 hI1
    by_cases hlt : i < k
    · have hle := partLen_le zs.length k i hlt
      have hsuc := partOff_succ zs.length k i
      have hpos := partLen_pos zs.length k i hkz hk0
      have hdrop := partsOf_drop zs.length k i hlt
      have hpc : (piecesOf (zs.map (Value.int .i64)) k)[i]? = some (((zs.map (Value.int .i64)).drop (partOff zs.length k i)).take (partLen zs.length k i)) := by simp [piecesOf, hlt]
      generalize partOff zs.length k i = a at *
      generalize partLen zs.length k i = s at *
      obtain ⟨vi, hvi, hsl⟩ := HR1.out.2 i _ hpc
      have hl : (((zs.map (Value.int .i64)).drop a).take s).length = s := by simp; omega
      rw [hl] at hsl
      obtain ⟨pi, ci, rfl⟩ : ∃ p c, vi = .slice p s c := by obtain ⟨-, p, c, e, -⟩ := hsl; exact ⟨p, c, e⟩
      obtain ⟨hx1, hx2⟩ := HC1.out i _ hvi
      have hx := C2.cell hx1 (fun h' => h'.elim (fun h' => by have := h.old _ h'; simp only at this; omega) (fun h' => by simp only at h'; omega))
      have hlt' := hlt
      have l0 : (0 : Int) ≤ i := by omega
      have l1 : (i : Int) < k := by omega
      have HSU := Lib.hid hsuc
      have HDR := Lib.hid hdrop
      clear hx1 hsl hvi hl hpc hsuc hdrop
      go_wp2_with fail
      refine (n_without Sl' wr (.slice pv zs.length cv) a s (zs.map (Value.int .i64)) (by rw [List.length_map]; exact HS1.out.chg C2 fun k hk => fun h' => h'.elim (hsb k hk).2 (hsb k hk).1) (by simp [Value.oneCell']) (by simp; omega) (by omega) (by omega)).mono ?_
      rintro e w3 ⟨v3, rfl, O3, C3⟩
      rw [woF_map _ _ _ _ hpos, List.length_map] at O3
      have hwl := without_len zs a s hle
      have HWL := Lib.hid hwl
      have hz3 := C3.size
      have hI3 := h.keep _ wr w3 hI2 (by omega) (C3.mono fun _ _ h => h.elim)
      clear hwl hx
      have hO3 := O3.sl
      go_wp2_with fail
      have HIC := Lib.hid hic
      refine (n_ask h w3 b (n + i) (m + i) v3 (without zs a s) (C3.blk0 HB2.out) hb hI3 (by omega) (by have := HWL.out; omega) (by omega) (by omega) hO3 (fun k hk e => by omega)).mono ?_
      rintro e w4 ⟨rfl, B4, I4, C4⟩
      have O4 := O3.chg C4 (fun k hk e => e.elim (fun e => by have := h.old _ e; omega) (fun e => by omega))
      have HB4 := Lib.hid B4
      have HI4 := Lib.hid I4
      have HO4 := Lib.hid O4
      have CD : Chg (fun k => S k ∨ k = b) wr w4 := (C3.mono (S' := fun k => S k ∨ k = b) fun _ _ h => h.elim).trans C4 fun _ _ h => h
      have HCD := Lib.hid CD
      have hre2 := HRE.out
      rw [HDR.out] at hre2
      unfold lessF at hre2
      clear B4 I4 O4 O3 hO3 hI3 C3 C4 hI2 CD
      cases hp : p (without zs a s) with
      | true =>
        rw [hp, if_pos rfl] at hre2
        obtain ⟨rfl, rfl⟩ := Prod.mk.inj hre2
        clear hre2 hp
        go_wp2_with fail
        go_ret2
        refine ⟨_, rfl, _, true, rfl, ⟨rfl, HO4.out.mono fun k hk => by omega⟩, ?_, ?_, CC.trans HCD.out fun _ _ h => h⟩
        · rw [← HIC.out]; exact HB4.out
        · rw [← HIC.out]; exact HI4.out
      | false =>
        rw [hp, if_neg (by decide)] at hre2
        obtain ⟨rfl, rfl⟩ := Prod.mk.inj hre2
        clear hre2 hp
        go_wp2_with fail
        go_roundg (k - (i + 1))
        case measure => have := HI.out; omega
        case rel =>
          exact ⟨i + 1, by omega, by go_num, by rw [HSU.out]; go_num, _, by rw [HSU.out], by have := HIC.out; omega, HB4.out, HI4.out, C2.trans HCD.out fun _ _ h => h⟩
    · obtain rfl : i = k := by have := HI.out; omega
      have hre2 := HRE.out
      rw [List.drop_of_length_le (by rw [partsOf_len]; omega)] at hre2
      unfold lessF at hre2
      obtain ⟨rfl, rfl⟩ := Prod.mk.inj hre2
      clear hre2
      have HIC := Lib.hid hic
      clear hic
      go_wp2
      go_ret2
      refine ⟨_, rfl, _, false, rfl, ⟨rfl, rfl⟩, ?_, ?_, CC⟩
      · rw [← HIC.out]; exact HB2.out
      · rw [← HIC.out]; exact hI2
end Go.Proofs.Ytokigldggkkbcaa
