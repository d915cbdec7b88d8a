/- Which registers may be unwritten where, by the program. No condition. Which registers a program may read unwritten, by the program. No condition. Which registers a program may read unwritten, by the reference. No condition. -/
import Derived.Test.YtapmojfebljjnaaGreatHu
import Derived.Test.YtapmojfebljjnaaGreatHq
import Derived.Test.YtapmojfebljjnaaGreatHs
import Derived.Laws.BitsAllLaws
set_option linter.unusedVariables false
set_option linter.unusedSimpArgs false
set_option linter.unusedSectionVars false
namespace Go.Proofs.YtapmojfebljjnaaGreat
open Go.RowKit Go.RR

def u16s (s : List Nat) : Array Value := (s.map fun n : Nat => Value.int .u16 n).toArray
theorem u16s_set (s : List Nat) (p x : Nat) : (u16s s).setIfInBounds p (.int .u16 x) = u16s (s.set p x) := by simp [u16s, List.map_set]
theorem u16s_at {S : St} {p : Nat} (hp : p < S.1.length) : (u16s S.1)[p]? = some (.int .u16 (op S p)) := by
  unfold u16s op
  simp [hp]
/-- What the instruction at a place writes; reads. -/
def wrN (l : List In) (p : Nat) : Nat := match l[p]? with | some i => writesF i | none => 0
def rdN (l : List In) (p : Nat) : Nat := match l[p]? with | some i => readsF i | none => 0
theorem wrN_at {l : List In} {p : Nat} {i : In} (h : l[p]? = some i) : wrN l p = writesF i := by unfold wrN; rw [h]
theorem rdN_at {l : List In} {p : Nat} {i : In} (h : l[p]? = some i) : rdN l p = readsF i := by unfold rdN; rw [h]
theorem wrN_lt (l : List In) (p : Nat) : wrN l p < 65536 := by
  unfold wrN
  split
  · exact writesF_lt _
  · omega
theorem bits_not16 {a b : Nat} (ha : a < 65536) (hb : b < 65536) : bits .andNot .u16 (a : Int) (b : Int) = ((sub16 a b : Nat) : Int) := u16_andNot_nat a b ha hb

set_option maxHeartbeats 4000000 in
set_option maxRecDepth 100000 in
theorem come_any {l : List In} {w0 : World} {v : Value} {b g1 g2 : Nat} (hr : ∀ i ∈ l, rightB i = true) (hl : l.length ≤ 40) (hs : Sl w0 (fun k => k < w0.heap.size) 5 v l.length (icells l)) (hb : w0.heap.size ≤ b) (hg1 : w0.heap.size ≤ g1) (hg2 : w0.heap.size ≤ g2) (n1 : b ≠ g1) (n2 : b ≠ g2) (n3 : g1 ≠ g2) :
    ∀ (f : Nat) (S : St) (p o : Nat) (w : World), Blk w b #[v, .slice (some ⟨g1, 0, none⟩) l.length l.length, .slice (some ⟨g2, 0, none⟩) l.length l.length] 118 → Blk w g1 (u16s S.1) 58 → Blk w g2 (bools S.2) 4 → Chg (fun q => w0.heap.size ≤ q) w0 w → p ≤ l.length → o < 65536 → WfS l.length S → l.length * 65536 < f + us l.length S →
      Calls Tryz.prog 39 #[.pointer (some ⟨b, 0, none⟩), .int .i64 p, .int .u16 o] w (RetW (.tuple #[]) fun w' => Blk w' g1 (u16s (com (nxN l) l.length (wrN l) f S p o).1) 58 ∧ Blk w' g2 (bools (com (nxN l) l.length (wrN l) f S p o).2) 4 ∧ Chg (fun q => q = g1 ∨ q = g2) w w')
  | 0, S, p, o, w, _, _, _, _, _, _, hw, hf => by have := us_max hw; omega
  | f + 1, S, p, o, w, hB, hG1, hG2, hC, hp, ho, hw, hf => by
    have ih := Lib.hid (come_any hr hl hs hb hg1 hg2 n1 n2 n3 f)
    obtain ⟨pv, cv, rfl⟩ := hs.form
    have x0 := hB.cell' (i := 0) (v := .slice pv l.length cv) (by rfl)
    have x1 := hB.cell' (i := 1) (v := .slice (some ⟨g1, 0, none⟩) l.length l.length) (by rfl)
    have x2 := hB.cell' (i := 2) (v := .slice (some ⟨g2, 0, none⟩) l.length l.length) (by rfl)
    have hbl := hB.lt
    have hgl1 := hG1.lt
    have hgl2 := hG2.lt
    have HS := Lib.hid hs
    have HR := Lib.hid hr
    have HB := Lib.hid hB
    have HG1 := Lib.hid hG1
    have HG2 := Lib.hid hG2
    have HC := Lib.hid hC
    have HW := Lib.hid hw
    have HF := Lib.hid hf
    clear hs hr hB hG1 hG2 hC hw hf
    by_cases h1 : l.length ≤ p
    · have t1 : decide ((l.length : Int) ≤ p) = true := by simp; omega
      have t1' : decide (l.length ≤ p) = true := by simp; omega
      have HD := Lib.hid (com_out (nxN l) l.length (wrN l) (f := f) (S := S) (o := o) (.inl h1))
      clear h1
      go_enter Tryz.func39, Tryz.ntmps39
      go_wp2_with fail
      go_end0
      rw [HD.out]
      exact ⟨rfl, HG1.out, HG2.out, Chg.refl _ _⟩
    · have hpl : p < l.length := by omega
      have t1 : decide ((l.length : Int) ≤ p) = false := by simp; omega
      have t1' : decide (l.length ≤ p) = false := by simp; omega
      have y2 := HG2.out.cell' (i := p) (bools_at (by rw [HW.out.2.1]; exact hpl))
      have y1 := HG1.out.cell' (i := p) (u16s_at (S := S) (by rw [HW.out.1]; exact hpl))
      have hfz1 := HG1.out.frozen p
      have hfz2 := HG2.out.frozen p
      have p0 : (0 : Int) ≤ p := by omega
      have hox := (HW.out.2.2 p).1
      have hnot := bits_not16 ho hox
      have hor := bits_or16 (op S p) o hox ho
      by_cases h2 : mk S.2 p = true ∧ sub16 o (op S p) = 0
      · have HD := Lib.hid (com_out (nxN l) l.length (wrN l) (f := f) (S := S) (o := o) (.inr h2))
        rw [h2.1] at y2
        rw [h2.2] at hnot
        clear h1 h2
        go_enter Tryz.func39, Tryz.ntmps39
        go_wp2_with fail
        go_end0
        rw [HD.out]
        exact ⟨rfl, HG1.out, HG2.out, Chg.refl _ _⟩
      · have hnew := com_new (nxN l) l.length (wrN l) (f := f) (S := S) (o := o) (p := p) (by rintro (h | h); omega; exact h2 h)
        have HD := Lib.hid hnew
        -- the state behind the two stores
        have BS2 := HG2.out.set p (.bool true)
        rw [bools_set] at BS2
        have C2 := (Chg.refl (fun q => q = g1 ∨ q = g2) w).setCell (a := ⟨g2, p, none⟩) (.inl (.inr rfl)) (.bool true)
        have BG1 := HG1.out.set_ne (a := ⟨g2, p, none⟩) n3 (.bool true)
        have BS1 := BG1.set p (.int .u16 (op S p ||| o : Nat))
        rw [u16s_set] at BS1
        have BS2' := BS2.set_ne (a := ⟨g1, p, none⟩) (fun e => n3 e.symm) (.int .u16 (op S p ||| o : Nat))
        have C3 := C2.setCell (a := ⟨g1, p, none⟩) (.inl (.inl rfl)) (.int .u16 (op S p ||| o : Nat))
        have BB := (HB.out.set_ne (a := ⟨g2, p, none⟩) n2 (.bool true)).set_ne (a := ⟨g1, p, none⟩) n1 (.int .u16 (op S p ||| o : Nat))
        have HBS1 := Lib.hid BS1
        have HBS2 := Lib.hid BS2'
        have HC3 := Lib.hid C3
        have HBB := Lib.hid BB
        have HW3 := Lib.hid (HC.out.trans C3 fun q _ e => by rcases e with e | e <;> (have e : q = _ := e; omega))
        have z0 := BB.cell' (i := 0) (v := .slice pv l.length cv) (by rfl)
        clear BS2 C2 BG1 BS1 BS2' C3 BB hnew
        have HN2 := Lib.hid h2
        go_enter Tryz.func39, Tryz.ntmps39
        cases hm : mk S.2 p
        · rw [hm] at y2
          clear h1 h2 hm hnot
          go_wp2_with fail
          refine (fnext_any _ _ l p _ (HS.out.chg HW3.out fun k hk e => by have e : w0.heap.size ≤ k := e; have hk : k < w0.heap.size := hk; omega) hl HR.out).mono ?_
          rintro e w2 ⟨v2, rfl, hI, C2⟩
          rw [nextF_nx] at hI
          obtain ⟨p2, c2, rfl, hP2⟩ := hI.place
          obtain ⟨ns, hns⟩ : ∃ ns, nxN l p = ns := ⟨_, rfl⟩
          have hnb : ∀ n ∈ ns, n ≤ l.length := by rw [← hns]; exact nxN_le hpl
          have hnm : ∀ n ∈ ns, n ∈ nxN l p := fun n h => by rw [hns]; exact h
          have hn2 : ns.length ≤ 2 := by rw [← hns, nxN_len]; exact nextF_len _ _
          have HHI := Lib.hid hP2
          rw [hns] at HHI HD ⊢
          have HNB := Lib.hid hnb
          have HNM := Lib.hid hnm
          have HB2 := Lib.hid (C2.blk0 HBB.out)
          have HQ1 := Lib.hid (C2.blk0 HBS1.out)
          have HQ2 := Lib.hid (C2.blk0 HBS2.out)
          have HC2 := Lib.hid (HC3.out.then0 C2)
          have HW2 := Lib.hid (HW3.out.then0 C2)
          have hgg1 : g1 < ((w.setCell ⟨g2, p, none⟩ (.bool true)).setCell ⟨g1, p, none⟩ (.int .u16 (op S p ||| o : Nat))).heap.size := by simpa using hgl1
          have hgg2 : g2 < ((w.setCell ⟨g2, p, none⟩ (.bool true)).setCell ⟨g1, p, none⟩ (.int .u16 (op S p ||| o : Nat))).heap.size := by simpa using hgl2
          obtain ⟨i, hi⟩ : ∃ i, l[p]? = some i := ⟨l[p], by simp [hpl]⟩
          have HHi := Lib.hid hi
          obtain ⟨S3, hS3⟩ : ∃ T, ((S.1.set p (op S p ||| o), S.2.set p true) : St) = T := ⟨_, rfl⟩
          have hst := com_start HW.out ho hpl HN2.out
          rw [hS3] at hst HD
          have hq1 : S.1.set p (op S p ||| o) = S3.1 := by rw [← hS3]
          have hq2 : S.2.set p true = S3.2 := by rw [← hS3]
          rw [hq1] at HQ1
          rw [hq2] at HQ2
          have HST := Lib.hid hst
          clear hI hP2 hnb hnm hns C2 hi hS3 hst hq1 hq2 x0 x1 x2 y1 y2 z0 hor hfz1 hfz2 HBS1 HBS2 HC3 HW3 HBB
          go_wp2_with fail
          go_loopg [59] ns.length (fun gk ix wr => ∃ k : Nat, k + gk = ns.length ∧ ix = .int .i64 k ∧ Blk wr b #[.slice pv l.length cv, .slice (some ⟨g1, 0, none⟩) l.length l.length, .slice (some ⟨g2, 0, none⟩) l.length l.length] 118 ∧ Blk wr g1 (u16s ((ns.take k).foldl (cstep (nxN l) l.length (wrN l) f p) S3).1) 58 ∧ Blk wr g2 (bools ((ns.take k).foldl (cstep (nxN l) l.length (wrN l) f p) S3).2) 4 ∧ Chg (fun q => q = g1 ∨ q = g2) w wr ∧ Chg (fun q => q = g1 ∨ q = g2) w2 wr)
          case atStart => exact ⟨0, by omega, rfl, HB2.out, HQ1.out, HQ2.out, HC2.out, Chg.refl _ _⟩
          case round =>
            obtain ⟨k, hk, rfl, hBk, hAk1, hAk2, hCk, hCk2⟩ := hrel
            have HK := Lib.hid hk
            have hkl : k ≤ ns.length := by omega
            obtain ⟨T, hT⟩ : ∃ T, (ns.take k).foldl (cstep (nxN l) l.length (wrN l) f p) S3 = T := ⟨_, rfl⟩
            have hpre := com_prefix (f := f) (p := p) (nx := nxN l) (wrN_lt l) HST.out.1 hpl (by have := HF.out; have := HST.out.2; omega) (ns.take k) (fun n h => HNM.out n (List.mem_of_mem_take h))
            rw [hT] at hAk1 hAk2 hpre
            have HTT := Lib.hid hT
            have HPRE := Lib.hid hpre
            have HBK := Lib.hid hBk
            have HA1 := Lib.hid hAk1
            have HA2 := Lib.hid hAk2
            have HCK := Lib.hid hCk
            have HCK2 := Lib.hid hCk2
            clear hk hT hpre hBk hAk1 hAk2 hCk hCk2
            by_cases hlt : k < ns.length
            · obtain ⟨n, hn⟩ : ∃ n, ns[k]? = some n := ⟨ns[k], by simp [hlt]⟩
              obtain ⟨hcap, gn, on, rfl, hgB, hgn, x0⟩ := HHI.out k n hn
              have hnl := HNB.out n (List.mem_of_getElem? hn)
              have x0 := HCK2.out.cell x0 (fun e => by rcases e with e | e <;> (have e : gn = _ := e; omega))
              have hft := fold_take (cstep (nxN l) l.length (wrN l) f p) S3 ns k n hn
              rw [HTT.out] at hft
              have HFT := Lib.hid hft
              rename World => wr
              have hWr := HW2.out.trans HCK2.out fun q _ e => by rcases e with e | e <;> (have e : q = _ := e; omega)
              have hSr := HS.out.chg hWr fun k hk e => by have e : w0.heap.size ≤ k := e; have hk : k < w0.heap.size := hk; omega
              obtain ⟨pi, ci, hpi, hIn⟩ := InsAt.of hSr (by omega)
              cases hpi
              obtain ⟨gi, oi, rfl, hgi, c0, c1, c2, c3, c4⟩ := hIn.at HHi.out
              have hIcap := hIn.cap
              have b0 := HBK.out.cell' (i := 0) (v := .slice (some ⟨gi, oi, none⟩) l.length cv) (by rfl)
              have b1 := HBK.out.cell' (i := 1) (v := .slice (some ⟨g1, 0, none⟩) l.length l.length) (by rfl)
              have a1 := HA1.out.cell' (i := p) (u16s_at (by rw [HPRE.out.1.1]; exact hpl))
              have hblk := HBK.out.lt
              have hgk1 := HA1.out.lt
              have k0 : (0 : Int) ≤ k := by omega
              have k1 : (k : Int) < ns.length := by omega
              have knot := bits_not16 (HPRE.out.1.2.2 p).1 (writesF_lt i)
              have hss : ∀ w', Chg NoB wr w' → w'.cell? ⟨b, 0, none⟩ = some (.slice (some ⟨gi, oi, none⟩) l.length cv) ∧ w'.cell? ⟨b, 1, none⟩ = some (.slice (some ⟨g1, 0, none⟩) l.length l.length) ∧ w'.cell? ⟨g1, p, none⟩ = some (.int .u16 (op T p)) ∧ w'.cell? ⟨gi, oi + p * 5, none⟩ = some (.int .i64 i.op) ∧ w'.cell? ⟨gi, oi + p * 5 + 1, none⟩ = some (.int .i64 i.rd) ∧ w'.cell? ⟨gi, oi + p * 5 + 2, none⟩ = some (.int .i64 i.rs) ∧ w'.cell? ⟨gi, oi + p * 5 + 3, none⟩ = some (.int .i64 i.rt) ∧ w'.cell? ⟨gi, oi + p * 5 + 4, none⟩ = some (.int .i64 i.im) := fun w' c => ⟨c.cell b0 id, c.cell b1 id, c.cell a1 id, c.cell c0 id, c.cell c1 id, c.cell c2 id, c.cell c3 id, c.cell c4 id⟩
              have HSS := Lib.hid hss
              have HWR := Lib.hid hWr
              clear hn hft hgB hWr hSr hIn hss
              go_wp2_with fail
              clear b0 b1 a1 c0 c1 c2 c3 c4
              refine wp_region_take 18 [0, 1, 2, 3, 4, 5, 6, 7, 8, 9, 10, 11, 12, 13, 14, 15] [16, 17] (fun w' => w'.cell? ⟨b, 0, none⟩ = some (.slice (some ⟨gi, oi, none⟩) l.length cv) ∧ w'.cell? ⟨b, 1, none⟩ = some (.slice (some ⟨g1, 0, none⟩) l.length l.length) ∧ w'.cell? ⟨g1, p, none⟩ = some (.int .u16 (op T p)) ∧ w'.cell? ⟨gi, oi + p * 5, none⟩ = some (.int .i64 i.op) ∧ w'.cell? ⟨gi, oi + p * 5 + 1, none⟩ = some (.int .i64 i.rd) ∧ w'.cell? ⟨gi, oi + p * 5 + 2, none⟩ = some (.int .i64 i.rs) ∧ w'.cell? ⟨gi, oi + p * 5 + 3, none⟩ = some (.int .i64 i.rt) ∧ w'.cell? ⟨gi, oi + p * 5 + 4, none⟩ = some (.int .i64 i.im)) (by kernel_rfl) (by kernel_rfl) (fun _ _ _ _ _ h => h) (HSS.out _ ((Chg.refl NoB _).drew)) ?_
              simp only [pickOps_nil, pickOps_cons, Option.getD_some, List.getElem?_toArray, List.getElem?_cons_zero, List.getElem?_cons_succ, List.cons_append, List.nil_append, List.drop_succ_cons, List.drop_zero]
              repeat
                refine wpTake_cons' rfl ?_
                apply Exists.intro
                refine ⟨fun wS hS => ?_, ?_⟩
                · try dsimp only at hS
                  obtain ⟨b0, b1, a1, c0, c1, c2, c3, c4⟩ := hS
                  go_simp
                  try rfl
                simp only [Act.put, List.setIfInBounds_toArray, List.set_cons_zero, List.set_cons_succ]
              refine wpTake_nil ?_
              refine wpForce_cons rfl (fun K hK => ?_)
              go_simp
              refine (fwrites_any i _).mono ?_
              rintro e w5 ⟨rfl, C5'⟩
              have C5 := Lib.hid (((Chg.refl NoB _).drew).step C5')
              refine hK _ _ (HSS.out _ C5.out) ?_
              clear hK K C5'
              refine wpForce_cons rfl (fun K hK => ?_)
              go_simp
              refine hK _ _ (HSS.out _ C5.out) ?_
              clear hK K
              refine wpForce_nil ?_
              have hsub := sub16_lt (b := writesF i) (HPRE.out.1.2.2 p).1
              clear knot
              go_wp2_with fail
              refine (ih.out T n (sub16 (op T p) (writesF i)) _ (C5.out.blk0 HBK.out) (C5.out.blk0 HA1.out) (C5.out.blk0 HA2.out) (HWR.out.then0 C5.out) hnl hsub HPRE.out.1 HPRE.out.2).mono ?_
              rintro e w6 ⟨rfl, D1, D2, C6⟩
              have hstep : cstep (nxN l) l.length (wrN l) f p T n = com (nxN l) l.length (wrN l) f T n (sub16 (op T p) (writesF i)) := by unfold cstep; rw [wrN_at HHi.out]
              rw [← hstep] at D1 D2
              have HD1 := Lib.hid D1
              have HD2 := Lib.hid D2
              have HC6 := Lib.hid C6
              have HC7 := Lib.hid (C5.out.then0 (Chg.refl NoB _))
              have HBK6 := Lib.hid (C6.blk (C5.out.blk0 HBK.out) (fun e => e.elim n1 n2))
              clear D1 D2 C6 hstep
              go_wp2_with fail
              go_roundg (ns.length - (k + 1))
              case measure => have := HK.out; omega
              case rel => exact ⟨k + 1, by have := HK.out; omega, by go_num, HBK6.out, by rw [HFT.out]; exact HD1.out, by rw [HFT.out]; exact HD2.out, (HCK.out.then0 C5.out).step HC6.out, (HCK2.out.then0 C5.out).step HC6.out⟩
            · obtain rfl : k = ns.length := by omega
              rw [List.take_length] at HTT
              go_wp2_with fail
              go_end0
              rw [HD.out, HTT.out]
              exact ⟨rfl, HA1.out, HA2.out, HCK.out⟩
        · rw [hm] at y2
          have hz : sub16 o (op S p) ≠ 0 := fun e => h2 ⟨hm, e⟩
          obtain ⟨sb, hsb⟩ : ∃ sb, sub16 o (op S p) = sb := ⟨_, rfl⟩
          rw [hsb] at hnot hz
          have q0 : ((sb : Int) == 0) = false := by rw [beq_eq_false_iff_ne]; omega
          have q0' : (sb == 0) = false := by rw [beq_eq_false_iff_ne]; omega
          clear h1 h2 hm hsb hz
          go_wp2_with fail
          refine (fnext_any _ _ l p _ (HS.out.chg HW3.out fun k hk e => by have e : w0.heap.size ≤ k := e; have hk : k < w0.heap.size := hk; omega) hl HR.out).mono ?_
          rintro e w2 ⟨v2, rfl, hI, C2⟩
          rw [nextF_nx] at hI
          obtain ⟨p2, c2, rfl, hP2⟩ := hI.place
          obtain ⟨ns, hns⟩ : ∃ ns, nxN l p = ns := ⟨_, rfl⟩
          have hnb : ∀ n ∈ ns, n ≤ l.length := by rw [← hns]; exact nxN_le hpl
          have hnm : ∀ n ∈ ns, n ∈ nxN l p := fun n h => by rw [hns]; exact h
          have hn2 : ns.length ≤ 2 := by rw [← hns, nxN_len]; exact nextF_len _ _
          have HHI := Lib.hid hP2
          rw [hns] at HHI HD ⊢
          have HNB := Lib.hid hnb
          have HNM := Lib.hid hnm
          have HB2 := Lib.hid (C2.blk0 HBB.out)
          have HQ1 := Lib.hid (C2.blk0 HBS1.out)
          have HQ2 := Lib.hid (C2.blk0 HBS2.out)
          have HC2 := Lib.hid (HC3.out.then0 C2)
          have HW2 := Lib.hid (HW3.out.then0 C2)
          have hgg1 : g1 < ((w.setCell ⟨g2, p, none⟩ (.bool true)).setCell ⟨g1, p, none⟩ (.int .u16 (op S p ||| o : Nat))).heap.size := by simpa using hgl1
          have hgg2 : g2 < ((w.setCell ⟨g2, p, none⟩ (.bool true)).setCell ⟨g1, p, none⟩ (.int .u16 (op S p ||| o : Nat))).heap.size := by simpa using hgl2
          obtain ⟨i, hi⟩ : ∃ i, l[p]? = some i := ⟨l[p], by simp [hpl]⟩
          have HHi := Lib.hid hi
          obtain ⟨S3, hS3⟩ : ∃ T, ((S.1.set p (op S p ||| o), S.2.set p true) : St) = T := ⟨_, rfl⟩
          have hst := com_start HW.out ho hpl HN2.out
          rw [hS3] at hst HD
          have hq1 : S.1.set p (op S p ||| o) = S3.1 := by rw [← hS3]
          have hq2 : S.2.set p true = S3.2 := by rw [← hS3]
          rw [hq1] at HQ1
          rw [hq2] at HQ2
          have HST := Lib.hid hst
          clear hI hP2 hnb hnm hns C2 hi hS3 hst hq1 hq2 x0 x1 x2 y1 y2 z0 hor hfz1 hfz2 HBS1 HBS2 HC3 HW3 HBB
          go_wp2_with fail
          go_loopg [59] ns.length (fun gk ix wr => ∃ k : Nat, k + gk = ns.length ∧ ix = .int .i64 k ∧ Blk wr b #[.slice pv l.length cv, .slice (some ⟨g1, 0, none⟩) l.length l.length, .slice (some ⟨g2, 0, none⟩) l.length l.length] 118 ∧ Blk wr g1 (u16s ((ns.take k).foldl (cstep (nxN l) l.length (wrN l) f p) S3).1) 58 ∧ Blk wr g2 (bools ((ns.take k).foldl (cstep (nxN l) l.length (wrN l) f p) S3).2) 4 ∧ Chg (fun q => q = g1 ∨ q = g2) w wr ∧ Chg (fun q => q = g1 ∨ q = g2) w2 wr)
          case atStart => exact ⟨0, by omega, rfl, HB2.out, HQ1.out, HQ2.out, HC2.out, Chg.refl _ _⟩
          case round =>
            obtain ⟨k, hk, rfl, hBk, hAk1, hAk2, hCk, hCk2⟩ := hrel
            have HK := Lib.hid hk
            have hkl : k ≤ ns.length := by omega
            obtain ⟨T, hT⟩ : ∃ T, (ns.take k).foldl (cstep (nxN l) l.length (wrN l) f p) S3 = T := ⟨_, rfl⟩
            have hpre := com_prefix (f := f) (p := p) (nx := nxN l) (wrN_lt l) HST.out.1 hpl (by have := HF.out; have := HST.out.2; omega) (ns.take k) (fun n h => HNM.out n (List.mem_of_mem_take h))
            rw [hT] at hAk1 hAk2 hpre
            have HTT := Lib.hid hT
            have HPRE := Lib.hid hpre
            have HBK := Lib.hid hBk
            have HA1 := Lib.hid hAk1
            have HA2 := Lib.hid hAk2
            have HCK := Lib.hid hCk
            have HCK2 := Lib.hid hCk2
            clear hk hT hpre hBk hAk1 hAk2 hCk hCk2
            by_cases hlt : k < ns.length
            · obtain ⟨n, hn⟩ : ∃ n, ns[k]? = some n := ⟨ns[k], by simp [hlt]⟩
              obtain ⟨hcap, gn, on, rfl, hgB, hgn, x0⟩ := HHI.out k n hn
              have hnl := HNB.out n (List.mem_of_getElem? hn)
              have x0 := HCK2.out.cell x0 (fun e => by rcases e with e | e <;> (have e : gn = _ := e; omega))
              have hft := fold_take (cstep (nxN l) l.length (wrN l) f p) S3 ns k n hn
              rw [HTT.out] at hft
              have HFT := Lib.hid hft
              rename World => wr
              have hWr := HW2.out.trans HCK2.out fun q _ e => by rcases e with e | e <;> (have e : q = _ := e; omega)
              have hSr := HS.out.chg hWr fun k hk e => by have e : w0.heap.size ≤ k := e; have hk : k < w0.heap.size := hk; omega
              obtain ⟨pi, ci, hpi, hIn⟩ := InsAt.of hSr (by omega)
              cases hpi
              obtain ⟨gi, oi, rfl, hgi, c0, c1, c2, c3, c4⟩ := hIn.at HHi.out
              have hIcap := hIn.cap
              have b0 := HBK.out.cell' (i := 0) (v := .slice (some ⟨gi, oi, none⟩) l.length cv) (by rfl)
              have b1 := HBK.out.cell' (i := 1) (v := .slice (some ⟨g1, 0, none⟩) l.length l.length) (by rfl)
              have a1 := HA1.out.cell' (i := p) (u16s_at (by rw [HPRE.out.1.1]; exact hpl))
              have hblk := HBK.out.lt
              have hgk1 := HA1.out.lt
              have k0 : (0 : Int) ≤ k := by omega
              have k1 : (k : Int) < ns.length := by omega
              have knot := bits_not16 (HPRE.out.1.2.2 p).1 (writesF_lt i)
              have hss : ∀ w', Chg NoB wr w' → w'.cell? ⟨b, 0, none⟩ = some (.slice (some ⟨gi, oi, none⟩) l.length cv) ∧ w'.cell? ⟨b, 1, none⟩ = some (.slice (some ⟨g1, 0, none⟩) l.length l.length) ∧ w'.cell? ⟨g1, p, none⟩ = some (.int .u16 (op T p)) ∧ w'.cell? ⟨gi, oi + p * 5, none⟩ = some (.int .i64 i.op) ∧ w'.cell? ⟨gi, oi + p * 5 + 1, none⟩ = some (.int .i64 i.rd) ∧ w'.cell? ⟨gi, oi + p * 5 + 2, none⟩ = some (.int .i64 i.rs) ∧ w'.cell? ⟨gi, oi + p * 5 + 3, none⟩ = some (.int .i64 i.rt) ∧ w'.cell? ⟨gi, oi + p * 5 + 4, none⟩ = some (.int .i64 i.im) := fun w' c => ⟨c.cell b0 id, c.cell b1 id, c.cell a1 id, c.cell c0 id, c.cell c1 id, c.cell c2 id, c.cell c3 id, c.cell c4 id⟩
              have HSS := Lib.hid hss
              have HWR := Lib.hid hWr
              clear hn hft hgB hWr hSr hIn hss
              go_wp2_with fail
              clear b0 b1 a1 c0 c1 c2 c3 c4
              refine wp_region_take 18 [0, 1, 2, 3, 4, 5, 6, 7, 8, 9, 10, 11, 12, 13, 14, 15] [16, 17] (fun w' => w'.cell? ⟨b, 0, none⟩ = some (.slice (some ⟨gi, oi, none⟩) l.length cv) ∧ w'.cell? ⟨b, 1, none⟩ = some (.slice (some ⟨g1, 0, none⟩) l.length l.length) ∧ w'.cell? ⟨g1, p, none⟩ = some (.int .u16 (op T p)) ∧ w'.cell? ⟨gi, oi + p * 5, none⟩ = some (.int .i64 i.op) ∧ w'.cell? ⟨gi, oi + p * 5 + 1, none⟩ = some (.int .i64 i.rd) ∧ w'.cell? ⟨gi, oi + p * 5 + 2, none⟩ = some (.int .i64 i.rs) ∧ w'.cell? ⟨gi, oi + p * 5 + 3, none⟩ = some (.int .i64 i.rt) ∧ w'.cell? ⟨gi, oi + p * 5 + 4, none⟩ = some (.int .i64 i.im)) (by kernel_rfl) (by kernel_rfl) (fun _ _ _ _ _ h => h) (HSS.out _ ((Chg.refl NoB _).drew)) ?_
              simp only [pickOps_nil, pickOps_cons, Option.getD_some, List.getElem?_toArray, List.getElem?_cons_zero, List.getElem?_cons_succ, List.cons_append, List.nil_append, List.drop_succ_cons, List.drop_zero]
              repeat
                refine wpTake_cons' rfl ?_
                apply Exists.intro
                refine ⟨fun wS hS => ?_, ?_⟩
                · try dsimp only at hS
                  obtain ⟨b0, b1, a1, c0, c1, c2, c3, c4⟩ := hS
                  go_simp
                  try rfl
                simp only [Act.put, List.setIfInBounds_toArray, List.set_cons_zero, List.set_cons_succ]
              refine wpTake_nil ?_
              refine wpForce_cons rfl (fun K hK => ?_)
              go_simp
              refine (fwrites_any i _).mono ?_
              rintro e w5 ⟨rfl, C5'⟩
              have C5 := Lib.hid (((Chg.refl NoB _).drew).step C5')
              refine hK _ _ (HSS.out _ C5.out) ?_
              clear hK K C5'
              refine wpForce_cons rfl (fun K hK => ?_)
              go_simp
              refine hK _ _ (HSS.out _ C5.out) ?_
              clear hK K
              refine wpForce_nil ?_
              have hsub := sub16_lt (b := writesF i) (HPRE.out.1.2.2 p).1
              clear knot
              go_wp2_with fail
              refine (ih.out T n (sub16 (op T p) (writesF i)) _ (C5.out.blk0 HBK.out) (C5.out.blk0 HA1.out) (C5.out.blk0 HA2.out) (HWR.out.then0 C5.out) hnl hsub HPRE.out.1 HPRE.out.2).mono ?_
              rintro e w6 ⟨rfl, D1, D2, C6⟩
              have hstep : cstep (nxN l) l.length (wrN l) f p T n = com (nxN l) l.length (wrN l) f T n (sub16 (op T p) (writesF i)) := by unfold cstep; rw [wrN_at HHi.out]
              rw [← hstep] at D1 D2
              have HD1 := Lib.hid D1
              have HD2 := Lib.hid D2
              have HC6 := Lib.hid C6
              have HC7 := Lib.hid (C5.out.then0 (Chg.refl NoB _))
              have HBK6 := Lib.hid (C6.blk (C5.out.blk0 HBK.out) (fun e => e.elim n1 n2))
              clear D1 D2 C6 hstep
              go_wp2_with fail
              go_roundg (ns.length - (k + 1))
              case measure => have := HK.out; omega
              case rel => exact ⟨k + 1, by have := HK.out; omega, by go_num, HBK6.out, by rw [HFT.out]; exact HD1.out, by rw [HFT.out]; exact HD2.out, (HCK.out.then0 C5.out).step HC6.out, (HCK2.out.then0 C5.out).step HC6.out⟩
            · obtain rfl : k = ns.length := by omega
              rw [List.take_length] at HTT
              go_wp2_with fail
              go_end0
              rw [HD.out, HTT.out]
              exact ⟨rfl, HA1.out, HA2.out, HCK.out⟩
end Go.Proofs.YtapmojfebljjnaaGreat
set_option linter.unusedVariables false
set_option linter.unusedSimpArgs false
set_option linter.unusedSectionVars false
namespace Go.Proofs.YtapmojfebljjnaaGreat
open Go.RowKit Go.RR

theorem U16Info : (Tryz.prog.info? 58).map (fun i => (i.zero, i.size, i.bytes)) = some (some (.int .u16 0), 1, 2) := by kernel_rfl
theorem made_u16s (n : Nat) : madeCells (Value.int .u16 0).cells (n * 1) = u16s (List.replicate n 0) := by
  rw [Nat.mul_one]
  apply Array.ext_getElem?
  intro k
  unfold madeCells u16s
  by_cases hk : k < n
  · simp [Value.cells, hk, Nat.mod_one]
  · simp [hk]
theorem bits_and16 {a b : Nat} (ha : a < 65536) (hb : b < 65536) : bits .and .u16 (a : Int) (b : Int) = ((a &&& b : Nat) : Int) :=
  (bits_nat .u16 16 (by decide) (fun m h0 h1 => by rw [IntKind.wrap_u16]; omega) a b ha hb).1
def outStep (rd : Nat → Nat) (S : St) (out p : Nat) : Nat := if mk S.2 p = true then out ||| (op S p &&& rd p) else out

theorem WfS.zero (N : Nat) : WfS N (List.replicate N 0, List.replicate N false) := by
  have hop : ∀ q, op (List.replicate N 0, List.replicate N false) q = 0 := fun q => by
    unfold op
    rw [List.getD_eq_getElem?_getD, List.getElem?_replicate]
    split <;> rfl
  exact ⟨by simp, by simp, fun q => by rw [hop]; exact ⟨by omega, fun _ => rfl⟩⟩
set_option maxHeartbeats 4000000 in
set_option maxRecDepth 100000 in
theorem fraw_any (S0 : Nat → Prop) (v : Value) (l : List In) (w : World) (hs : Sl w S0 5 v l.length (icells l)) (hl : l.length ≤ 40) (hr : ∀ i ∈ l, rightB i = true) :
    Calls Tryz.prog 17 #[v] w (RetW (.int .u16 (rawF (nxN l) l.length (wrN l) (rdN l) : Nat)) fun w' => Chg NoB w w') := by
  obtain ⟨i0, hi0, hz0, hz1, hz2⟩ := info_parts BoolInfo
  obtain ⟨j0, hj0, jz0, jz1, jz2⟩ := info_parts U16Info
  have hmk : ∀ W, (Instr.makeSlice 34 (.int .i64 l.length) (.int .i64 l.length)).run Tryz.prog W = .ok (.slice (some ⟨W.heap.size, 0, none⟩) l.length l.length) (W.alloc (.cells (bools (List.replicate l.length false)) 4)) := by
    intro W
    have h := run_make (P := Tryz.prog) W 34 4 i0 _ Tryz.underlying34 hi0 hz0 .i64 .i64 l.length l.length (by omega) (by omega) (by rw [hz2]; omega) (by omega)
    rw [hz1, Int.toNat_natCast, made_bools] at h
    exact h
  have hmu : ∀ W, (Instr.makeSlice 116 (.int .i64 l.length) (.int .i64 l.length)).run Tryz.prog W = .ok (.slice (some ⟨W.heap.size, 0, none⟩) l.length l.length) (W.alloc (.cells (u16s (List.replicate l.length 0)) 58)) := by
    intro W
    have h := run_make (P := Tryz.prog) W 116 58 j0 _ Tryz.underlying116 hj0 jz0 .i64 .i64 l.length l.length (by omega) (by omega) (by rw [jz2]; omega) (by omega)
    rw [jz1, Int.toNat_natCast, made_u16s] at h
    exact h
  obtain ⟨pv, cv, rfl⟩ := hs.form
  have hs' := hs.monoIn (S' := fun k => k < w.heap.size) fun k h _ => h
  have HS := Lib.hid hs'
  have HR := Lib.hid hr
  clear hs hs' hr
  go_enter Tryz.func17, Tryz.ntmps17
  go_wp2_with fail
  go_region_held3 (fun w' => True) (trivial) (fail)
  ·
    have e1 : (w.alloc (.cells (u16s (List.replicate l.length 0)) 58)).heap.size = w.heap.size + 1 := by simp
    have e2 : ((w.alloc (.cells (u16s (List.replicate l.length 0)) 58)).alloc (.cells (bools (List.replicate l.length false)) 4)).heap.size = w.heap.size + 1 + 1 := by simp
    have A1 := (((Chg.refl NoB w).alloc (.cells (u16s (List.replicate l.length 0)) 58)).alloc (.cells (bools (List.replicate l.length false)) 4)).alloc (.cells #[.slice pv l.length cv, .slice (some ⟨w.heap.size, 0, none⟩) l.length l.length, .slice (some ⟨w.heap.size + 1, 0, none⟩) l.length l.length] 118)
    have P1 := (((Blk.new w (u16s (List.replicate l.length 0)) 58).alloc (.cells (bools (List.replicate l.length false)) 4)).alloc (.cells #[.slice pv l.length cv, .slice (some ⟨w.heap.size, 0, none⟩) l.length l.length, .slice (some ⟨w.heap.size + 1, 0, none⟩) l.length l.length] 118)).drew
    have P2 := ((Blk.new (w.alloc (.cells (u16s (List.replicate l.length 0)) 58)) (bools (List.replicate l.length false)) 4).alloc (.cells #[.slice pv l.length cv, .slice (some ⟨w.heap.size, 0, none⟩) l.length l.length, .slice (some ⟨w.heap.size + 1, 0, none⟩) l.length l.length] 118)).drew
    have P3 := (Blk.new ((w.alloc (.cells (u16s (List.replicate l.length 0)) 58)).alloc (.cells (bools (List.replicate l.length false)) 4)) #[.slice pv l.length cv, .slice (some ⟨w.heap.size, 0, none⟩) l.length l.length, .slice (some ⟨w.heap.size + 1, 0, none⟩) l.length l.length] 118).drew
    rw [e1] at P2
    rw [e2] at P3
    have HP1 := Lib.hid P1
    have HP2 := Lib.hid P2
    have HP3 := Lib.hid P3
    have HA1 := Lib.hid A1.drew
    have HWF := Lib.hid (WfS.zero l.length)
    clear e1 e2 A1 P1 P2 P3 hmk hmu
    go_wp2_with fail
    refine (come_any HR.out hl HS.out (b := w.heap.size + 1 + 1) (g1 := w.heap.size) (g2 := (w.heap.size + 1)) (by omega) (by omega) (by omega) (by omega) (by omega) (by omega) (l.length * 65536 + 1) (List.replicate l.length 0, List.replicate l.length false) 0 65534 _ HP3.out HP1.out HP2.out (HA1.out.mono fun _ _ h => h.elim) (by omega) (by omega) HWF.out (by omega)).mono ?_
    rintro e w1 ⟨rfl, Q1, Q2, C1⟩
    have hraw := com_raw (nx := nxN l) (N := l.length) (wr := wrN l) (rd := rdN l) (fun p hp => nxN_le hp) (wrN_lt l)
    obtain ⟨S, hS⟩ : ∃ S, com (nxN l) l.length (wrN l) (l.length * 65536 + 1) (List.replicate l.length 0, List.replicate l.length false) 0 65534 = S := ⟨_, rfl⟩
    have hwf : WfS l.length S := by
      rw [← hS]
      exact (com_of (nx := nxN l) (N := l.length) (wrN_lt l) (fun _ _ => True) (fun _ _ _ _ _ _ _ => trivial) (l.length * 65536 + 1) _ 0 65534 HWF.out (by omega) (by omega)).1.wf
    rw [hS] at Q1 Q2 hraw
    have HRAW := Lib.hid hraw
    have HWS := Lib.hid hwf
    have HQ1 := Lib.hid Q1
    have HQ2 := Lib.hid Q2
    have HQ3 := Lib.hid (C1.blk HP3.out (fun e => by rcases e with e | e <;> (have e : w.heap.size + 1 + 1 = _ := e; omega)))
    have HC1 := Lib.hid (HA1.out.trans C1 fun q hq e => by rcases e with e | e <;> (have e : q = _ := e; omega))
    clear Q1 Q2 C1 hraw hwf hS
    go_wp2_with fail
    go_loopg [4, 20] l.length (fun gk ov ix wr => ∃ j o : Nat, j + gk = l.length ∧ ix = .int .i64 j ∧ ov = .int .u16 o ∧ o < 65536 ∧ (List.range j).foldl (outStep (rdN l) S) 0 = o ∧ Chg NoB w1 wr)
    case atStart => exact ⟨0, 0, by omega, rfl, rfl, by omega, rfl, Chg.refl _ _⟩
    case round =>
      obtain ⟨j, o, hj, rfl, rfl, ho, hfo, hC⟩ := hrel
      rename World => wr
      have HJ := Lib.hid hj
      have HFO := Lib.hid hfo
      have HC := Lib.hid hC
      have hjl : j ≤ l.length := by omega
      have hnx : (List.range (j + 1)).foldl (outStep (rdN l) S) 0 = outStep (rdN l) S o j := by rw [List.range_succ, List.foldl_append, hfo]; rfl
      have HNX := Lib.hid hnx
      clear hj hfo hC hnx
      by_cases hlt : j < l.length
      · obtain ⟨i, hi⟩ : ∃ i, l[j]? = some i := ⟨l[j], by simp [hlt]⟩
        have HHI := Lib.hid hi
        have hSr := HS.out.chg0 (HC1.out.step HC.out)
        obtain ⟨pi, ci, hpi, hIn⟩ := InsAt.of hSr (by omega)
        cases hpi
        obtain ⟨gi, oi, rfl, hgi, c0, c1, c2, c3, c4⟩ := hIn.at hi
        have hIcap := hIn.cap
        have q3 := HC.out.blk0 HQ3.out
        have b1 := q3.cell' (i := 1) (v := .slice (some ⟨w.heap.size, 0, none⟩) l.length l.length) (by rfl)
        have b2 := q3.cell' (i := 2) (v := .slice (some ⟨(w.heap.size + 1), 0, none⟩) l.length l.length) (by rfl)
        have a1 := (HC.out.blk0 HQ1.out).cell' (i := j) (u16s_at (by rw [HWS.out.1]; exact hlt))
        have a2 := (HC.out.blk0 HQ2.out).cell' (i := j) (bools_at (by rw [HWS.out.2.1]; exact hlt))
        have hz1 := (HC.out.blk0 HQ1.out).lt
        have hz2 := (HC.out.blk0 HQ2.out).lt
        have hz3 := q3.lt
        have j0' : (0 : Int) ≤ j := by omega
        have j1' : (j : Int) < l.length := by omega
        have hop := (HWS.out.2.2 j).1
        have A0 := (Chg.refl NoB wr).alloc (.cells #[.int .i64 i.op, .int .i64 i.rd, .int .i64 i.rs, .int .i64 i.rt, .int .i64 i.im] 41)
        have hrdi := rdN_at hi
        have HRD := Lib.hid hrdi
        clear hi hSr hIn q3 hrdi
        cases hm : mk S.2 j
        · rw [hm] at a2
          have he : outStep (rdN l) S o j = o := by unfold outStep; rw [hm, if_neg (by simp)]
          have HE := Lib.hid he
          have HA0 := Lib.hid A0
          clear hm he A0
          go_wp2_with fail
          go_roundg (l.length - (j + 1))
          case measure => have := HJ.out; omega
          case rel => exact ⟨j + 1, o, by have := HJ.out; omega, by go_num, rfl, ho, by rw [HNX.out, HE.out], HC.out.step HA0.out⟩
        · rw [hm] at a2
          have he : outStep (rdN l) S o j = o ||| (op S j &&& readsF i) := by unfold outStep; rw [hm, if_pos rfl, HRD.out]
          have HE := Lib.hid he
          have kand := bits_and16 hop (readsF_lt i)
          have hand : op S j &&& readsF i < 65536 := Nat.lt_of_le_of_lt Nat.and_le_left hop
          have kor := bits_or16 o (op S j &&& readsF i) ho hand
          have hor := or_lt16 ho hand
          have B0 := Blk.new wr #[.int .i64 i.op, .int .i64 i.rd, .int .i64 i.rs, .int .i64 i.rt, .int .i64 i.im] 41
          have b1' := A0.cell b1 id
          have a1' := A0.cell a1 id
          have hss : ∀ w', Chg NoB (wr.alloc (.cells #[.int .i64 i.op, .int .i64 i.rd, .int .i64 i.rs, .int .i64 i.rt, .int .i64 i.im] 41)) w' → w'.cell? ⟨w.heap.size + 1 + 1, 1, none⟩ = some (.slice (some ⟨w.heap.size, 0, none⟩) l.length l.length) ∧ w'.cell? ⟨w.heap.size, j, none⟩ = some (.int .u16 (op S j)) ∧ w'.cell? ⟨wr.heap.size, 0, none⟩ = some (.int .i64 i.op) ∧ w'.cell? ⟨wr.heap.size, 1, none⟩ = some (.int .i64 i.rd) ∧ w'.cell? ⟨wr.heap.size, 2, none⟩ = some (.int .i64 i.rs) ∧ w'.cell? ⟨wr.heap.size, 3, none⟩ = some (.int .i64 i.rt) ∧ w'.cell? ⟨wr.heap.size, 4, none⟩ = some (.int .i64 i.im) := fun w' c => by
            have B := c.blk0 B0
            exact ⟨c.cell b1' id, c.cell a1' id, B.cell' (i := 0) rfl, B.cell' (i := 1) rfl, B.cell' (i := 2) rfl, B.cell' (i := 3) rfl, B.cell' (i := 4) rfl⟩
          have HSS := Lib.hid hss
          have HA0 := Lib.hid A0
          clear hm he A0 B0 b1' a1' hss
          go_wp2_with fail
          clear b1 b2 a1 a2 c0 c1 c2 c3 c4
          refine wp_region_take 12 [0, 1, 2, 3, 4, 5, 6, 7, 8] [9, 10, 11] (fun w' => w'.cell? ⟨w.heap.size + 1 + 1, 1, none⟩ = some (.slice (some ⟨w.heap.size, 0, none⟩) l.length l.length) ∧ w'.cell? ⟨w.heap.size, j, none⟩ = some (.int .u16 (op S j)) ∧ w'.cell? ⟨wr.heap.size, 0, none⟩ = some (.int .i64 i.op) ∧ w'.cell? ⟨wr.heap.size, 1, none⟩ = some (.int .i64 i.rd) ∧ w'.cell? ⟨wr.heap.size, 2, none⟩ = some (.int .i64 i.rs) ∧ w'.cell? ⟨wr.heap.size, 3, none⟩ = some (.int .i64 i.rt) ∧ w'.cell? ⟨wr.heap.size, 4, none⟩ = some (.int .i64 i.im)) (by kernel_rfl) (by kernel_rfl) (fun _ _ _ _ _ h => h) (HSS.out _ ((Chg.refl NoB _).drew)) ?_
          simp only [pickOps_nil, pickOps_cons, Option.getD_some, List.getElem?_toArray, List.getElem?_cons_zero, List.getElem?_cons_succ, List.cons_append, List.nil_append, List.drop_succ_cons, List.drop_zero]
          repeat
            refine wpTake_cons' rfl ?_
            apply Exists.intro
            refine ⟨fun wS hS => ?_, ?_⟩
            · try dsimp only at hS
              obtain ⟨b1, a1, x0, x1, x2, x3, x4⟩ := hS
              go_simp
              try rfl
            simp only [Act.put, List.setIfInBounds_toArray, List.set_cons_zero, List.set_cons_succ]
          refine wpTake_nil ?_
          refine wpForce_cons rfl (fun K hK => ?_)
          go_simp
          refine (freads_any i _).mono ?_
          rintro e w5 ⟨rfl, C5'⟩
          have C5 := Lib.hid (((Chg.refl NoB _).drew).step C5')
          refine hK _ _ (HSS.out _ C5.out) ?_
          clear hK K C5'
          refine wpForce_cons rfl (fun K hK => ?_)
          go_simp
          refine hK _ _ (HSS.out _ C5.out) ?_
          clear hK K
          refine wpForce_cons rfl (fun K hK => ?_)
          go_simp
          refine hK _ _ (HSS.out _ C5.out) ?_
          clear hK K
          refine wpForce_nil ?_
          go_wp2_with fail
          go_roundg (l.length - (j + 1))
          case measure => have := HJ.out; omega
          case rel => exact ⟨j + 1, _, by have := HJ.out; omega, by go_num, rfl, hor, by rw [HNX.out, HE.out], HC.out.step (HA0.out.step C5.out)⟩
      · obtain rfl : j = l.length := by omega
        have he : rawF (nxN l) l.length (wrN l) (rdN l) = o := by
          rw [← HRAW.out, ← HFO.out]
          rfl
        have HE := Lib.hid he
        clear he
        go_wp2_with fail
        go_ret
        exact ⟨by rw [HE.out]; rfl, HC1.out.step HC.out⟩
  ·
    have e1 : (w.alloc (.cells (bools (List.replicate l.length false)) 4)).heap.size = w.heap.size + 1 := by simp
    have e2 : ((w.alloc (.cells (bools (List.replicate l.length false)) 4)).alloc (.cells (u16s (List.replicate l.length 0)) 58)).heap.size = w.heap.size + 1 + 1 := by simp
    have A1 := (((Chg.refl NoB w).alloc (.cells (bools (List.replicate l.length false)) 4)).alloc (.cells (u16s (List.replicate l.length 0)) 58)).alloc (.cells #[.slice pv l.length cv, .slice (some ⟨w.heap.size + 1, 0, none⟩) l.length l.length, .slice (some ⟨w.heap.size, 0, none⟩) l.length l.length] 118)
    have P1 := (((Blk.new w (bools (List.replicate l.length false)) 4).alloc (.cells (u16s (List.replicate l.length 0)) 58)).alloc (.cells #[.slice pv l.length cv, .slice (some ⟨w.heap.size + 1, 0, none⟩) l.length l.length, .slice (some ⟨w.heap.size, 0, none⟩) l.length l.length] 118)).drew
    have P2 := ((Blk.new (w.alloc (.cells (bools (List.replicate l.length false)) 4)) (u16s (List.replicate l.length 0)) 58).alloc (.cells #[.slice pv l.length cv, .slice (some ⟨w.heap.size + 1, 0, none⟩) l.length l.length, .slice (some ⟨w.heap.size, 0, none⟩) l.length l.length] 118)).drew
    have P3 := (Blk.new ((w.alloc (.cells (bools (List.replicate l.length false)) 4)).alloc (.cells (u16s (List.replicate l.length 0)) 58)) #[.slice pv l.length cv, .slice (some ⟨w.heap.size + 1, 0, none⟩) l.length l.length, .slice (some ⟨w.heap.size, 0, none⟩) l.length l.length] 118).drew
    rw [e1] at P2
    rw [e2] at P3
    have HP1 := Lib.hid P1
    have HP2 := Lib.hid P2
    have HP3 := Lib.hid P3
    have HA1 := Lib.hid A1.drew
    have HWF := Lib.hid (WfS.zero l.length)
    clear e1 e2 A1 P1 P2 P3 hmk hmu
    go_wp2_with fail
    refine (come_any HR.out hl HS.out (b := w.heap.size + 1 + 1) (g1 := (w.heap.size + 1)) (g2 := w.heap.size) (by omega) (by omega) (by omega) (by omega) (by omega) (by omega) (l.length * 65536 + 1) (List.replicate l.length 0, List.replicate l.length false) 0 65534 _ HP3.out HP2.out HP1.out (HA1.out.mono fun _ _ h => h.elim) (by omega) (by omega) HWF.out (by omega)).mono ?_
    rintro e w1 ⟨rfl, Q1, Q2, C1⟩
    have hraw := com_raw (nx := nxN l) (N := l.length) (wr := wrN l) (rd := rdN l) (fun p hp => nxN_le hp) (wrN_lt l)
    obtain ⟨S, hS⟩ : ∃ S, com (nxN l) l.length (wrN l) (l.length * 65536 + 1) (List.replicate l.length 0, List.replicate l.length false) 0 65534 = S := ⟨_, rfl⟩
    have hwf : WfS l.length S := by
      rw [← hS]
      exact (com_of (nx := nxN l) (N := l.length) (wrN_lt l) (fun _ _ => True) (fun _ _ _ _ _ _ _ => trivial) (l.length * 65536 + 1) _ 0 65534 HWF.out (by omega) (by omega)).1.wf
    rw [hS] at Q1 Q2 hraw
    have HRAW := Lib.hid hraw
    have HWS := Lib.hid hwf
    have HQ1 := Lib.hid Q1
    have HQ2 := Lib.hid Q2
    have HQ3 := Lib.hid (C1.blk HP3.out (fun e => by rcases e with e | e <;> (have e : w.heap.size + 1 + 1 = _ := e; omega)))
    have HC1 := Lib.hid (HA1.out.trans C1 fun q hq e => by rcases e with e | e <;> (have e : q = _ := e; omega))
    clear Q1 Q2 C1 hraw hwf hS
    go_wp2_with fail
    go_loopg [4, 20] l.length (fun gk ov ix wr => ∃ j o : Nat, j + gk = l.length ∧ ix = .int .i64 j ∧ ov = .int .u16 o ∧ o < 65536 ∧ (List.range j).foldl (outStep (rdN l) S) 0 = o ∧ Chg NoB w1 wr)
    case atStart => exact ⟨0, 0, by omega, rfl, rfl, by omega, rfl, Chg.refl _ _⟩
    case round =>
      obtain ⟨j, o, hj, rfl, rfl, ho, hfo, hC⟩ := hrel
      rename World => wr
      have HJ := Lib.hid hj
      have HFO := Lib.hid hfo
      have HC := Lib.hid hC
      have hjl : j ≤ l.length := by omega
      have hnx : (List.range (j + 1)).foldl (outStep (rdN l) S) 0 = outStep (rdN l) S o j := by rw [List.range_succ, List.foldl_append, hfo]; rfl
      have HNX := Lib.hid hnx
      clear hj hfo hC hnx
      by_cases hlt : j < l.length
      · obtain ⟨i, hi⟩ : ∃ i, l[j]? = some i := ⟨l[j], by simp [hlt]⟩
        have HHI := Lib.hid hi
        have hSr := HS.out.chg0 (HC1.out.step HC.out)
        obtain ⟨pi, ci, hpi, hIn⟩ := InsAt.of hSr (by omega)
        cases hpi
        obtain ⟨gi, oi, rfl, hgi, c0, c1, c2, c3, c4⟩ := hIn.at hi
        have hIcap := hIn.cap
        have q3 := HC.out.blk0 HQ3.out
        have b1 := q3.cell' (i := 1) (v := .slice (some ⟨(w.heap.size + 1), 0, none⟩) l.length l.length) (by rfl)
        have b2 := q3.cell' (i := 2) (v := .slice (some ⟨w.heap.size, 0, none⟩) l.length l.length) (by rfl)
        have a1 := (HC.out.blk0 HQ1.out).cell' (i := j) (u16s_at (by rw [HWS.out.1]; exact hlt))
        have a2 := (HC.out.blk0 HQ2.out).cell' (i := j) (bools_at (by rw [HWS.out.2.1]; exact hlt))
        have hz1 := (HC.out.blk0 HQ1.out).lt
        have hz2 := (HC.out.blk0 HQ2.out).lt
        have hz3 := q3.lt
        have j0' : (0 : Int) ≤ j := by omega
        have j1' : (j : Int) < l.length := by omega
        have hop := (HWS.out.2.2 j).1
        have A0 := (Chg.refl NoB wr).alloc (.cells #[.int .i64 i.op, .int .i64 i.rd, .int .i64 i.rs, .int .i64 i.rt, .int .i64 i.im] 41)
        have hrdi := rdN_at hi
        have HRD := Lib.hid hrdi
        clear hi hSr hIn q3 hrdi
        cases hm : mk S.2 j
        · rw [hm] at a2
          have he : outStep (rdN l) S o j = o := by unfold outStep; rw [hm, if_neg (by simp)]
          have HE := Lib.hid he
          have HA0 := Lib.hid A0
          clear hm he A0
          go_wp2_with fail
          go_roundg (l.length - (j + 1))
          case measure => have := HJ.out; omega
          case rel => exact ⟨j + 1, o, by have := HJ.out; omega, by go_num, rfl, ho, by rw [HNX.out, HE.out], HC.out.step HA0.out⟩
        · rw [hm] at a2
          have he : outStep (rdN l) S o j = o ||| (op S j &&& readsF i) := by unfold outStep; rw [hm, if_pos rfl, HRD.out]
          have HE := Lib.hid he
          have kand := bits_and16 hop (readsF_lt i)
          have hand : op S j &&& readsF i < 65536 := Nat.lt_of_le_of_lt Nat.and_le_left hop
          have kor := bits_or16 o (op S j &&& readsF i) ho hand
          have hor := or_lt16 ho hand
          have B0 := Blk.new wr #[.int .i64 i.op, .int .i64 i.rd, .int .i64 i.rs, .int .i64 i.rt, .int .i64 i.im] 41
          have b1' := A0.cell b1 id
          have a1' := A0.cell a1 id
          have hss : ∀ w', Chg NoB (wr.alloc (.cells #[.int .i64 i.op, .int .i64 i.rd, .int .i64 i.rs, .int .i64 i.rt, .int .i64 i.im] 41)) w' → w'.cell? ⟨w.heap.size + 1 + 1, 1, none⟩ = some (.slice (some ⟨(w.heap.size + 1), 0, none⟩) l.length l.length) ∧ w'.cell? ⟨(w.heap.size + 1), j, none⟩ = some (.int .u16 (op S j)) ∧ w'.cell? ⟨wr.heap.size, 0, none⟩ = some (.int .i64 i.op) ∧ w'.cell? ⟨wr.heap.size, 1, none⟩ = some (.int .i64 i.rd) ∧ w'.cell? ⟨wr.heap.size, 2, none⟩ = some (.int .i64 i.rs) ∧ w'.cell? ⟨wr.heap.size, 3, none⟩ = some (.int .i64 i.rt) ∧ w'.cell? ⟨wr.heap.size, 4, none⟩ = some (.int .i64 i.im) := fun w' c => by
            have B := c.blk0 B0
            exact ⟨c.cell b1' id, c.cell a1' id, B.cell' (i := 0) rfl, B.cell' (i := 1) rfl, B.cell' (i := 2) rfl, B.cell' (i := 3) rfl, B.cell' (i := 4) rfl⟩
          have HSS := Lib.hid hss
          have HA0 := Lib.hid A0
          clear hm he A0 B0 b1' a1' hss
          go_wp2_with fail
          clear b1 b2 a1 a2 c0 c1 c2 c3 c4
          refine wp_region_take 12 [0, 1, 2, 3, 4, 5, 6, 7, 8] [9, 10, 11] (fun w' => w'.cell? ⟨w.heap.size + 1 + 1, 1, none⟩ = some (.slice (some ⟨(w.heap.size + 1), 0, none⟩) l.length l.length) ∧ w'.cell? ⟨(w.heap.size + 1), j, none⟩ = some (.int .u16 (op S j)) ∧ w'.cell? ⟨wr.heap.size, 0, none⟩ = some (.int .i64 i.op) ∧ w'.cell? ⟨wr.heap.size, 1, none⟩ = some (.int .i64 i.rd) ∧ w'.cell? ⟨wr.heap.size, 2, none⟩ = some (.int .i64 i.rs) ∧ w'.cell? ⟨wr.heap.size, 3, none⟩ = some (.int .i64 i.rt) ∧ w'.cell? ⟨wr.heap.size, 4, none⟩ = some (.int .i64 i.im)) (by kernel_rfl) (by kernel_rfl) (fun _ _ _ _ _ h => h) (HSS.out _ ((Chg.refl NoB _).drew)) ?_
          simp only [pickOps_nil, pickOps_cons, Option.getD_some, List.getElem?_toArray, List.getElem?_cons_zero, List.getElem?_cons_succ, List.cons_append, List.nil_append, List.drop_succ_cons, List.drop_zero]
          repeat
            refine wpTake_cons' rfl ?_
            apply Exists.intro
            refine ⟨fun wS hS => ?_, ?_⟩
            · try dsimp only at hS
              obtain ⟨b1, a1, x0, x1, x2, x3, x4⟩ := hS
              go_simp
              try rfl
            simp only [Act.put, List.setIfInBounds_toArray, List.set_cons_zero, List.set_cons_succ]
          refine wpTake_nil ?_
          refine wpForce_cons rfl (fun K hK => ?_)
          go_simp
          refine (freads_any i _).mono ?_
          rintro e w5 ⟨rfl, C5'⟩
          have C5 := Lib.hid (((Chg.refl NoB _).drew).step C5')
          refine hK _ _ (HSS.out _ C5.out) ?_
          clear hK K C5'
          refine wpForce_cons rfl (fun K hK => ?_)
          go_simp
          refine hK _ _ (HSS.out _ C5.out) ?_
          clear hK K
          refine wpForce_cons rfl (fun K hK => ?_)
          go_simp
          refine hK _ _ (HSS.out _ C5.out) ?_
          clear hK K
          refine wpForce_nil ?_
          go_wp2_with fail
          go_roundg (l.length - (j + 1))
          case measure => have := HJ.out; omega
          case rel => exact ⟨j + 1, _, by have := HJ.out; omega, by go_num, rfl, hor, by rw [HNX.out, HE.out], HC.out.step (HA0.out.step C5.out)⟩
      · obtain rfl : j = l.length := by omega
        have he : rawF (nxN l) l.length (wrN l) (rdN l) = o := by
          rw [← HRAW.out, ← HFO.out]
          rfl
        have HE := Lib.hid he
        clear he
        go_wp2_with fail
        go_ret
        exact ⟨by rw [HE.out]; rfl, HC1.out.step HC.out⟩
end Go.Proofs.YtapmojfebljjnaaGreat
set_option linter.unusedVariables false
set_option linter.unusedSimpArgs false
set_option linter.unusedSectionVars false
namespace Go.Proofs.YtapmojfebljjnaaGreat
open Go.RowKit Go.RR





end Go.Proofs.YtapmojfebljjnaaGreat
