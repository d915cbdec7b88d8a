/- Loops and the longest way, by the reference. No condition. Loops and the longest way, by the program: a walk that keeps what it knows. No condition. -/
import Derived.Test.YtapmojfebljjnaaGreatHt
import Derived.Test.YtapmojfebljjnaaGreatHs
import Derived.Test.YtapmojfebljjnaaGreatGa
set_option linter.unusedVariables false
namespace Go.Proofs.YtapmojfebljjnaaGreat
open Go.RowKit Go.RR




theorem fromF_take_len (l : List In) (st : List Nat) : ((fromF (nxN l) l.length st).take l.length).length = l.length := by
  rw [List.length_take, fromF_len (nx := nxN l) (N := l.length) (fun p hp => nxN_le hp)]; omega
theorem IntInfo : (Tryz.prog.info? 3).map (fun i => (i.zero, i.size, i.bytes)) = some (some (.int .i64 0), 1, 8) := by kernel_rfl
/-- All numbers are between 0 and N. -/
def Within0 (N : Nat) (s : List Int) : Prop := ∀ q, 0 ≤ s.getD q 0 ∧ s.getD q 0 ≤ N
theorem Within0.max {N : Nat} {s : List Int} (h : Within0 N s) (ns : List Nat) : 0 ≤ ns.foldl (fun b n => max b (s.getD n 0)) 0 ∧ ns.foldl (fun b n => max b (s.getD n 0)) 0 ≤ N :=
  ⟨(foldl_max_ge (fun n => s.getD n 0) ns 0).1, foldl_max_le (g := fun n => s.getD n 0) ns 0 (by omega) fun n _ => (h n).2⟩
theorem Within0.one {nx : Nat → List Nat} {N : Nat} {s : List Int} (h : Within0 N s) (p : Nat) : Within0 N (bestOne nx N s p) := by
  intro q
  unfold bestOne
  by_cases hp : p < s.length
  · rw [getD_set hp]
    by_cases hq : q = p
    · rw [if_pos hq]; have := h.max (nx p); omega
    · rw [if_neg hq]; exact h q
  · rw [List.set_eq_of_length_le (by omega)]; exact h q
theorem Within0.fold {nx : Nat → List Nat} {N : Nat} : ∀ (ps : List Nat) (s : List Int), Within0 N s → Within0 N (ps.foldl (bestOne nx N) s)
  | [], s, h => h
  | p :: ps, s, h => Within0.fold ps _ (h.one p)
theorem Within0.zero (N n : Nat) : Within0 N (List.replicate n 0) := by
  intro q
  have : (List.replicate n (0 : Int)).getD q 0 = 0 := by
    rw [List.getD_eq_getElem?_getD, List.getElem?_replicate]
    split <;> rfl
  rw [this]; omega
theorem best_foldlen (nx : Nat → List Nat) (N : Nat) : ∀ (ps : List Nat) (s : List Int), (ps.foldl (bestOne nx N) s).length = s.length
  | [], s => rfl
  | p :: ps, s => by rw [List.foldl_cons, best_foldlen nx N ps, bestOne_len]
theorem Within0.rounds {nx : Nat → List Nat} {N : Nat} {s : List Int} (h : Within0 N s) : ∀ k, Within0 N (bestRounds nx N k s) ∧ (bestRounds nx N k s).length = s.length
  | 0 => ⟨h, rfl⟩
  | k + 1 => by
    obtain ⟨h1, h2⟩ := Within0.rounds h k
    exact ⟨Within0.fold _ _ h1, by show (bestRound nx N _).length = _; unfold bestRound; rw [best_foldlen, h2]⟩
/-- The longest way, and whether there is one. -/
def longF (l : List In) : Int := if loopF (nxN l) l.length = true then 0 else if l.length = 0 then 0 else bestF (nxN l) l.length

end Go.Proofs.YtapmojfebljjnaaGreat
set_option linter.unusedVariables false
namespace Go.Proofs.YtapmojfebljjnaaGreat
open Go.RowKit Go.RR

theorem mlook_mput {m : List (Int × Value)} {a : Int} {v : Value} (x : Int) : mlook (mput m a v) x = if x = a then some v else mlook m x := by
  induction m with
  | nil =>
    by_cases h : x = a
    · simp [mput, mlook, h]
    · have : ¬ a = x := fun e => h e.symm
      simp [mput, mlook, h, this]
  | cons p m ih =>
    unfold mput
    by_cases hp : p.1 = a
    · rw [if_pos hp]
      by_cases h : x = a
      · simp [mlook, h]
      · have h1 : (a == x) = false := by simpa using fun e => h e.symm
        have h2 : (p.1 == x) = false := by rw [hp]; exact h1
        simp [mlook, h, h1, h2]
    · rw [if_neg hp]
      by_cases h : x = a
      · have h2 : (p.1 == x) = false := by rw [h]; simpa using hp
        have := ih
        simp only [mlook, List.find?_cons, h2] at this ⊢
        exact this
      · have := ih
        rw [if_neg h] at this ⊢
        cases h2 : (p.1 == x)
        · simp only [mlook, List.find?_cons, h2] at this ⊢
          exact this
        · simp only [mlook, List.find?_cons, h2]
/-- A map that reads as what is known. -/
def MemoAt (w : World) (b : Nat) (m : Memo) : Prop := ∃ L, MapAt w b .i64 L ∧ ∀ p : Nat, mlook L (p : Int) = (m p).map (Value.int .i64)
theorem MemoAt.chg {S : Nat → Prop} {w w' : World} {b : Nat} {m : Memo} (h : MemoAt w b m) (c : Chg S w w') (hn : ¬ S b) : MemoAt w' b m := by
  obtain ⟨L, h1, h2⟩ := h
  exact ⟨L, h1.chg c hn, h2⟩
theorem MemoAt.put {w' : World} {b : Nat} {m : Memo} {L : List (Int × Value)} (h2 : ∀ p : Nat, mlook L (p : Int) = (m p).map (Value.int .i64)) {p : Nat} {x : Int} (h : MapAt w' b .i64 (mput L p (.int .i64 x))) : MemoAt w' b (upd m p x) := by
  refine ⟨_, h, fun q => ?_⟩
  rw [mlook_mput]
  by_cases hq : q = p
  · rw [if_pos (by omega), hq, upd_same]; rfl
  · rw [if_neg (by omega), upd_ne hq]; exact h2 q

set_option maxHeartbeats 4000000 in
set_option maxRecDepth 100000 in
theorem from_any {l : List In} {w0 : World} {v : Value} {b mb : Nat} (hr : ∀ i ∈ l, rightB i = true) (hl : l.length ≤ 40) (hs : Sl w0 (fun k => k < w0.heap.size) 5 v l.length (icells l)) (hb : w0.heap.size ≤ b) (hmb : w0.heap.size ≤ mb) (hne : b ≠ mb) :
    ∀ (f : Nat) (m : Memo) (lb : Bool) (p : Nat) (w : World), Blk w b #[v, .map (some mb), .bool lb] 97 → MemoAt w mb m → Chg (fun q => w0.heap.size ≤ q) w0 w → p ≤ l.length → f ≤ 100 → (lb = false → Inv (nxN l) l.length m ∧ l.length < f + kn l.length m) →
      Calls Tryz.prog 32 #[.pointer (some ⟨b, 0, none⟩), .int .i64 p] w (RetW (.int .i64 (lng (nxN l) l.length f (m, lb) p).1) fun w' => Blk w' b #[v, .map (some mb), .bool (lng (nxN l) l.length f (m, lb) p).2.2] 97 ∧ MemoAt w' mb (lng (nxN l) l.length f (m, lb) p).2.1 ∧ Chg (fun q => q = b ∨ q = mb) w w')
  | f, m, true, p, w, hB, hM, hC, hp, _, _ => by
    obtain ⟨pv, cv, rfl⟩ := hs.form
    have hd := lng_true (nx := nxN l) (N := l.length) f (m, true) p rfl
    have x0 := hB.cell' (i := 0) (v := .slice pv l.length cv) (by rfl)
    have x2 := hB.cell' (i := 2) (v := .bool true) (by rfl)
    have HD := Lib.hid hd
    have HB := Lib.hid hB
    have HM := Lib.hid hM
    clear hd hB hM hC hs hr
    by_cases h1 : l.length ≤ p
    · have t1 : decide ((l.length : Int) ≤ p) = true := by simp; omega
      have t1' : decide (l.length ≤ p) = true := by simp; omega
      clear h1
      go_enter Tryz.func32, Tryz.ntmps32
      go_wp2_with fail
      go_ret
      rw [HD.out]
      exact ⟨rfl, HB.out, HM.out, Chg.refl _ _⟩
    · have t1 : decide ((l.length : Int) ≤ p) = false := by simp; omega
      have t1' : decide (l.length ≤ p) = false := by simp; omega
      clear h1
      go_enter Tryz.func32, Tryz.ntmps32
      go_wp2_with fail
      go_ret
      rw [HD.out]
      exact ⟨rfl, HB.out, HM.out, Chg.refl _ _⟩
  | 0, m, false, p, w, _, _, _, _, _, hf => by have := kn_max (N := l.length) m; have := (hf rfl).2; omega
  | f + 1, m, false, p, w, hB, hM, hC, hp, hf100, hf => by
    obtain ⟨i0, hi0, hz0, hz1, hz2⟩ := info_parts IntInfo
    have ih := Lib.hid (from_any hr hl hs hb hmb hne f)
    obtain ⟨pv, cv, rfl⟩ := hs.form
    obtain ⟨hI, hfk⟩ := hf rfl
    obtain ⟨L, hL, hLk⟩ := hM
    have x0 := hB.cell' (i := 0) (v := .slice pv l.length cv) (by rfl)
    have x1 := hB.cell' (i := 1) (v := .map (some mb)) (by rfl)
    have x2 := hB.cell' (i := 2) (v := .bool false) (by rfl)
    have hbl := hB.lt
    have HS := Lib.hid hs
    have HR := Lib.hid hr
    have HB := Lib.hid hB
    have HL := Lib.hid hL
    have HLK := Lib.hid hLk
    have HC := Lib.hid hC
    have HI := Lib.hid hI
    have HFK := Lib.hid hfk
    by_cases h1 : l.length ≤ p
    · have t1 : decide ((l.length : Int) ≤ p) = true := by simp; omega
      have t1' : decide (l.length ≤ p) = true := by simp; omega
      have HD := Lib.hid (lng_out (nxN l) l.length (f := f) (S := (m, false)) (.inl h1))
      clear h1 hf hfk hI hL hLk hB hC hs hr
      go_enter Tryz.func32, Tryz.ntmps32
      go_wp2_with fail
      go_ret
      rw [HD.out]
      exact ⟨rfl, HB.out, ⟨L, HL.out, HLK.out⟩, Chg.refl _ _⟩
    · have hpl : p < l.length := by omega
      have t1 : decide ((l.length : Int) ≤ p) = false := by simp; omega
      have t1' : decide (l.length ≤ p) = false := by simp; omega
      have hlk : ∀ n, (Instr.lookup 95 (.map (some mb)) (.int .i64 (p : Int)) true).run Tryz.prog (w.drewN n) = .ok (.tuple #[(mlook L p).getD (.int .i64 0), .bool (mlook L p).isSome]) (w.drewN n) := fun n => run_look2 (P := Tryz.prog) Tryz.underlying95 Tryz.underlying3 hi0 hz0 (show MapAt (w.drewN n) mb .i64 L from hL) p
      have hlk0 : (Instr.lookup 95 (.map (some mb)) (.int .i64 (p : Int)) true).run Tryz.prog w = .ok (.tuple #[(mlook L p).getD (.int .i64 0), .bool (mlook L p).isSome]) w := hlk 0
      have p0 : (0 : Int) ≤ p := by omega
      cases hm : m p with
      | some n =>
        rw [hLk p, hm] at hlk hlk0
        simp only [Option.map_some, Option.getD_some, Option.isSome_some] at hlk hlk0
        obtain ⟨-, h2⟩ := hI p n hm
        have hdm := dn_max (N := l.length) m
        have hn1 : -1 ≤ n ∧ n ≤ 40 := by rcases h2 with h2 | h2 <;> omega
        obtain ⟨hn2, hn3⟩ := hn1
        have HD := Lib.hid (lng_old (nxN l) l.length (f := f) (S := (m, false)) hpl rfl hm)
        have hfz := hB.frozen 2
        clear h1 hf hfk hI hL hLk hB hC hs hr hm h2
        go_enter Tryz.func32, Tryz.ntmps32
        go_wp2_with fail
        go_ret
        rw [HD.out]
        exact ⟨rfl, HB.out.set 2 _, ⟨L, HL.out.chg ((Chg.refl (· = b) w).setCell (a := ⟨b, 2, none⟩) (.inl rfl) _) (fun e => hne e.symm), HLK.out⟩, (Chg.refl _ w).setCell (a := ⟨b, 2, none⟩) (.inl (.inl rfl)) _⟩
      | none =>
        rw [hLk p, hm] at hlk hlk0
        simp only [Option.map_none, Option.getD_none, Option.isSome_none] at hlk hlk0
        have HD := Lib.hid (lng_new (nxN l) l.length (f := f) (S := (m, false)) hpl rfl hm)
        have HPX := Lib.hid (lprefix hI hpl hm hfk)
        have HMN := Lib.hid hm
        clear h1 hf hfk hI hLk hB hC hs hr hm
        have hL0 := hL
        clear hL
        go_enter Tryz.func32, Tryz.ntmps32
        go_wp2_with (refine wpList_mapput rfl _ _ _ 95 3 3 rfl Tryz.underlying95 Tryz.underlying3 rfl hL0 p rfl (.int .i64 (-1)) rfl ?_)
        intro w1 hM1 C1
        have M1 := MemoAt.put HLK.out hM1
        have B1 := C1.blk HB.out hne
        have W1 := HC.out.trans C1 fun q _ e => by have e : q = mb := e; omega
        have x0 := B1.cell' (i := 0) (v := .slice pv l.length cv) (by rfl)
        have hbl1 := B1.lt
        have HM1 := Lib.hid M1
        have HB1 := Lib.hid B1
        have HW1 := Lib.hid W1
        have HC1 := Lib.hid (C1.mono (S' := fun q => q = b ∨ q = mb) fun q _ h => .inr h)
        clear x1 x2 hlk hlk0 hM1 M1 B1 W1 C1 hL0
        go_wp2_with fail
        refine (fnext_any _ _ l p _ (HS.out.chg HW1.out fun k hk e => by have e : w0.heap.size ≤ k := e; have hk : k < w0.heap.size := hk; omega) hl HR.out).mono ?_
        rintro e w2 ⟨v2, rfl, hI, C2⟩
        rw [nextF_nx] at hI
        obtain ⟨p2, c2, rfl, hP2⟩ := hI.place
        obtain ⟨ns, hns⟩ : ∃ ns, nxN l p = ns := ⟨_, rfl⟩
        have hnb : ∀ n ∈ ns, n ≤ l.length := by rw [← hns]; exact nxN_le hpl
        have hn2 : ns.length ≤ 2 := by rw [← hns, nxN_len]; exact nextF_len _ _
        have HHI := Lib.hid hP2
        have hmbl : mb < w1.heap.size := by obtain ⟨L', h, -⟩ := HM1.out; exact h.lt
        rw [hns] at HHI HD ⊢
        have HNB := Lib.hid hnb
        have HB2 := Lib.hid (C2.blk0 HB1.out)
        have HM2 := Lib.hid (HM1.out.chg C2 id)
        have HC2 := Lib.hid (HC1.out.then0 C2)
        have HW2 := Lib.hid (HW1.out.then0 C2)
        have hz2 := C2.size
        clear hI hP2 hnb hns C2 x0
        go_wp2_with fail
        go_loopg [7, 57] ns.length (fun gk bv ix wr => ∃ k : Nat, k + gk = ns.length ∧ ix = .int .i64 k ∧ bv = .int .i64 ((ns.take k).foldl (lstep (nxN l) l.length f) ((0 : Int), ((upd m p (-1), false) : Memo × Bool))).1 ∧
          Blk wr b #[.slice pv l.length cv, .map (some mb), .bool ((ns.take k).foldl (lstep (nxN l) l.length f) ((0 : Int), ((upd m p (-1), false) : Memo × Bool))).2.2] 97 ∧ MemoAt wr mb ((ns.take k).foldl (lstep (nxN l) l.length f) ((0 : Int), ((upd m p (-1), false) : Memo × Bool))).2.1 ∧ Chg (fun q => q = b ∨ q = mb) w wr ∧ Chg (fun q => q = b ∨ q = mb) w2 wr)
        case atStart => exact ⟨0, by omega, rfl, rfl, HB2.out, HM2.out, HC2.out, Chg.refl _ _⟩
        case round =>
          obtain ⟨k, hk, rfl, rfl, hBk, hMk, hCk, hCk2⟩ := hrel
          have HK := Lib.hid hk
          have hkl : k ≤ ns.length := by omega
          obtain ⟨hpx1, hpx2, hpx3⟩ := HPX.out (ns.take k)
          obtain ⟨R, hR⟩ : ∃ R, (ns.take k).foldl (lstep (nxN l) l.length f) ((0 : Int), ((upd m p (-1), false) : Memo × Bool)) = R := ⟨_, rfl⟩
          rw [hR] at hBk hMk hpx1 hpx2 hpx3 ⊢
          have HRR := Lib.hid hR
          have HP1 := Lib.hid hpx1
          have HBK := Lib.hid hBk
          have HMK := Lib.hid hMk
          have HCK := Lib.hid hCk
          have HCK2 := Lib.hid hCk2
          obtain ⟨best, M, lb⟩ := R
          simp only at hpx2 hpx3
          clear hk hR hpx1 hBk hMk hCk hCk2
          by_cases hlt : k < ns.length
          · obtain ⟨n, hn⟩ : ∃ n, ns[k]? = some n := ⟨ns[k], by simp [hlt]⟩
            obtain ⟨hcap, g1, o1, rfl, hgB, hg1, x0⟩ := HHI.out k n hn
            have hnl := HNB.out n (List.mem_of_getElem? hn)
            have x0 := HCK2.out.cell x0 (fun e => by rcases e with e | e <;> (have e : g1 = _ := e; omega))
            have hft := fold_take (lstep (nxN l) l.length f) ((0 : Int), ((upd m p (-1), false) : Memo × Bool)) ns k n hn
            rw [HRR.out] at hft
            have HFT := Lib.hid hft
            have k0 : (0 : Int) ≤ k := by omega
            have k1 : (k : Int) < ns.length := by omega
            clear hn hft hgB
            go_wp2_with fail
            refine (ih.out M lb n _ HBK.out HMK.out (HW2.out.trans HCK2.out fun q _ e => by rcases e with e | e <;> (have e : q = _ := e; omega)) hnl (by omega) HP1.out).mono ?_
            rintro e w3 ⟨rfl, B3, M3, C3⟩
            obtain ⟨r, hr⟩ : ∃ r, lng (nxN l) l.length f (M, lb) n = r := ⟨_, rfl⟩
            have hls : lstep (nxN l) l.length f (best, (M, lb)) n = (max best r.1, r.2) := by rw [← hr]; rfl
            rw [hr] at B3 M3 ⊢
            rw [hls] at HFT
            have HB3 := Lib.hid B3
            have HM3 := Lib.hid M3
            have HC3 := Lib.hid C3
            obtain ⟨rv, rM, rb⟩ := r
            clear B3 M3 C3 hr hls
            go_wp2_with fail
            go_roundg (ns.length - (k + 1))
            case measure => have := HK.out; omega
            case rel => exact ⟨k + 1, by have := HK.out; omega, by go_num, by rw [HFT.out], by rw [HFT.out]; exact HB3.out, by rw [HFT.out]; exact HM3.out, HCK.out.step HC3.out, HCK2.out.step HC3.out⟩
          · obtain rfl : k = ns.length := by omega
            rw [List.take_length] at HRR
            obtain ⟨L5, hL5, hLk5⟩ := HMK.out
            have x1 := HBK.out.cell' (i := 1) (v := .map (some mb)) (by rfl)
            have hbl5 := HBK.out.lt
            have HL5 := Lib.hid hLk5
            clear hLk5
            go_wp2_with (refine wpList_mapput rfl _ _ _ 95 3 3 rfl Tryz.underlying95 Tryz.underlying3 rfl hL5 p rfl (.int .i64 (best + 1)) rfl ?_)
            intro w6 hM6 C6
            have HM6 := Lib.hid (MemoAt.put HL5.out hM6)
            have HB6 := Lib.hid (C6.blk HBK.out hne)
            have HC6 := Lib.hid (HCK.out.step (C6.mono (S' := fun q => q = b ∨ q = mb) fun q _ h => .inr h))
            clear hM6 C6 hL5 x1
            go_wp2_with fail
            go_ret
            rw [HD.out, HRR.out]
            exact ⟨rfl, HB6.out, HM6.out, HC6.out⟩

set_option maxHeartbeats 1000000 in
set_option maxRecDepth 100000 in
theorem flongest_any (S : Nat → Prop) (v : Value) (l : List In) (w : World) (hs : Sl w S 5 v l.length (icells l)) (hl : l.length ≤ 40) (hr : ∀ i ∈ l, rightB i = true) :
    Calls Tryz.prog 9 #[v] w (RetW (.tuple #[.int .i64 (longF l), .bool (!loopF (nxN l) l.length)]) fun w' => Chg NoB w w') := by
  have hmm := @run_makeMap Tryz.prog
  obtain ⟨pv, cv, rfl⟩ := hs.form
  have hs' := hs.monoIn (S' := fun k => k < w.heap.size) fun k h _ => h
  have HS := Lib.hid hs'
  have HR := Lib.hid hr
  obtain ⟨hb1, hb2⟩ := lng_best (nx := nxN l) (N := l.length) (fun p hp => nxN_le hp)
  have HE1 := Lib.hid hb1
  have HE2 := Lib.hid hb2
  have A1 := (Chg.refl NoB w).alloc (.map #[] 0)
  have M1 : MemoAt (w.alloc (.map #[] 0)) w.heap.size (fun _ => none) := ⟨[], MapAt.new w .i64, fun _ => rfl⟩
  have A2 := A1.alloc (.cells #[.slice pv l.length cv, .map (some w.heap.size), .bool false] 97)
  have B2 := Blk.new (w.alloc (.map #[] 0)) #[.slice pv l.length cv, .map (some w.heap.size), .bool false] 97
  have M2 := M1.chg ((Chg.refl NoB _).alloc (.cells #[.slice pv l.length cv, .map (some w.heap.size), .bool false] 97)) id
  have e1 : (w.alloc (.map #[] 0)).heap.size = w.heap.size + 1 := by simp
  rw [e1] at B2
  have HA2 := Lib.hid A2
  have HM2 := Lib.hid M2
  have HB2 := Lib.hid B2
  clear A1 M1 A2 B2 M2 e1 hs hs' hr hb1 hb2
  go_enter Tryz.func9, Tryz.ntmps9
  go_wp2_with fail
  clear hmm
  refine (from_any HR.out hl HS.out (b := w.heap.size + 1) (mb := w.heap.size) (by omega) (by omega) (by omega) (l.length + 1) (fun _ => none) false 0 _ HB2.out HM2.out (HA2.out.mono fun _ _ h => h.elim) (by omega) (by omega) (fun _ => ⟨fun q x h => (by cases h), by omega⟩)).mono ?_
  rintro e w1 ⟨rfl, B3, M3, C3⟩
  generalize lng (nxN l) l.length (l.length + 1) ((fun _ => none), false) 0 = r at *
  obtain ⟨rv, rM, rb⟩ := r
  have x2 := B3.cell' (i := 2) (v := .bool rb) (by rfl)
  have hbl := B3.lt
  have HC3 := Lib.hid (HA2.out.trans C3 fun q hq e => by rcases e with e | e <;> (have e : q = _ := e; omega))
  clear B3 M3 C3
  have e1 : rb = loopF (nxN l) l.length := HE1.out
  cases rb
  · have e2 : longF l = rv := by
      unfold longF
      rw [← e1, if_neg (by simp)]
      exact (HE2.out e1.symm).symm
    have HE3 := Lib.hid e2
    have HE4 := Lib.hid e1
    clear e1 e2
    go_wp2_with fail
    go_ret2
    exact ⟨by rw [HE3.out, ← HE4.out]; rfl, HC3.out⟩
  · have e2 : longF l = 0 := by
      unfold longF
      rw [← e1, if_pos rfl]
    have HE3 := Lib.hid e2
    have HE4 := Lib.hid e1
    clear e1 e2
    go_wp2_with fail
    go_ret2
    exact ⟨by rw [HE3.out, ← HE4.out]; rfl, HC3.out⟩
set_option maxHeartbeats 1000000 in
set_option maxRecDepth 100000 in
theorem floops_any (S : Nat → Prop) (v : Value) (l : List In) (w : World) (hs : Sl w S 5 v l.length (icells l)) (hl : l.length ≤ 40) (hr : ∀ i ∈ l, rightB i = true) :
    Calls Tryz.prog 16 #[v] w (RetW (.bool (loopF (nxN l) l.length)) fun w' => Chg NoB w w') := by
  have HH := Lib.hid (flongest_any S v l w hs hl hr)
  clear hs hr
  obtain ⟨b, hb⟩ : ∃ b, loopF (nxN l) l.length = b := ⟨_, rfl⟩
  have HB := Lib.hid hb
  clear hb
  cases b
  all_goals
    go_enter Tryz.func16, Tryz.ntmps16
    go_wp2_with fail
    refine HH.out.mono ?_
    rintro e w1 ⟨rfl, C1⟩
    rw [HB.out]
    have HC1 := Lib.hid C1
    clear C1
    go_wp2_with fail
    go_ret
    exact ⟨by rw [HB.out]; rfl, HC1.out⟩
end Go.Proofs.YtapmojfebljjnaaGreat
