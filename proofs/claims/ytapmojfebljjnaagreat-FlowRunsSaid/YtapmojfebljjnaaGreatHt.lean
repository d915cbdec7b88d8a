/- Where a program may come to: the walk in depth. No condition. Which places may be come to, by the reference. No condition. -/
import Derived.Test.YtapmojfebljjnaaGreatHr
import Derived.Test.YtapmojfebljjnaaGreatHs
import Derived.Laws.MakeOwn
set_option linter.unusedVariables false
namespace Go.Proofs.YtapmojfebljjnaaGreat
open Go.RowKit Go.RR

/-- What may follow, as places. -/
def nxN (l : List In) (p : Nat) : List Nat := (nextF l (p : Int)).map Int.toNat
theorem nextF_in {l : List In} {p : Nat} {x : Int} (h : x ∈ nextF l (p : Int)) : 0 ≤ x ∧ x ≤ l.length ∧ p < l.length := by
  by_cases hp : p < l.length
  · refine (fun (h : 0 ≤ x ∧ x ≤ l.length) => ⟨h.1, h.2, hp⟩) ?_
    obtain ⟨i, hi⟩ : ∃ i, l[p]? = some i := ⟨l[p], by simp [hp]⟩
    rw [nextF_at hi] at h
    have he := endF_in l.length (p + i.im)
    unfold follow at h
    split at h
    · simp at h; omega
    · split at h
      · split at h
        · simp at h; omega
        · split at h
          · simp at h; omega
          · simp at h; omega
      · split at h
        · simp at h
        · simp at h; omega
  · rw [nextF_out (.inr (by omega))] at h
    simp at h
theorem nextF_nx (l : List In) (p : Nat) : nextF l (p : Int) = (nxN l p).map fun n : Nat => (n : Int) := by
  unfold nxN
  rw [List.map_map]
  conv => lhs; rw [← List.map_id (nextF l (p : Int))]
  refine List.map_congr_left fun x hx => ?_
  have := nextF_in hx
  simp only [Function.comp, id]
  omega
theorem nxN_le {l : List In} {p : Nat} (hp : p < l.length) : ∀ n ∈ nxN l p, n ≤ l.length := fun n hn => by
  obtain ⟨x, hx, rfl⟩ := List.mem_map.1 hn
  have := nextF_in hx
  omega
theorem nxN_out {l : List In} {p : Nat} (h : l.length ≤ p) : nxN l p = [] := by unfold nxN; rw [nextF_out (.inr (by omega))]; rfl
theorem nxN_len (l : List In) (p : Nat) : (nxN l p).length = (nextF l (p : Int)).length := by simp [nxN]
theorem nextF_len (l : List In) (x : Int) : (nextF l x).length ≤ 2 := by
  unfold nextF
  split
  · simp
  · split
    · simp
    · unfold follow
      split
      · simp
      · split
        · split
          · simp
          · split <;> simp
        · split <;> simp
def bools (s : List Bool) : Array Value := (s.map Value.bool).toArray
theorem bools_set (s : List Bool) (p : Nat) (b : Bool) : (bools s).setIfInBounds p (.bool b) = bools (s.set p b) := by
  simp [bools, List.map_set]
theorem bools_at {s : List Bool} {p : Nat} (hp : p < s.length) : (bools s)[p]? = some (.bool (mk s p)) := by
  unfold bools mk
  simp [hp]
/-- A list gone on through by one: what the fold makes of it. -/
theorem fold_take {α β : Type} (g : β → α → β) (s : β) (ns : List α) (k : Nat) (n : α) (h : ns[k]? = some n) : (ns.take (k + 1)).foldl g s = g ((ns.take k).foldl g s) n := by
  rw [List.take_add_one, h, List.foldl_append]; rfl
/-- The places of a slice of integers. -/
theorem IAtN.place {B : Nat} {w : World} {v : Value} {ns : List Nat} (h : IAtN B w v (ns.map fun n : Nat => (n : Int))) : ∃ p c, v = .slice p ns.length c ∧ ∀ (k : Nat) (n : Nat), ns[k]? = some n → ns.length ≤ c ∧ ∃ g of, p = some ⟨g, of, none⟩ ∧ B ≤ g ∧ g < w.heap.size ∧ w.cell? ⟨g, of + k, none⟩ = some (.int .i64 n) := by
  obtain ⟨hl, p, c, e, hc, hs⟩ := h
  rw [List.length_map] at e hc
  subst e
  refine ⟨p, c, rfl, fun k n hk => ⟨hc, ?_⟩⟩
  obtain ⟨g, of, hp, hB, hg, hcell⟩ := hs (by have := (List.getElem?_eq_some_iff.1 hk).1; simp; omega)
  exact ⟨g, of, hp, hB, hg, hcell k _ (by simp [hk])⟩

theorem BoolInfo : (Tryz.prog.info? 4).map (fun i => (i.zero, i.size, i.bytes)) = some (some (.bool false), 1, 1) := by kernel_rfl
theorem made_bools (n : Nat) : madeCells (Value.bool false).cells (n * 1) = bools (List.replicate n false) := by
  rw [Nat.mul_one]
  apply Array.ext_getElem?
  intro k
  unfold madeCells bools
  by_cases hk : k < n
  · simp [Value.cells, hk, Nat.mod_one]
  · simp [hk]

set_option maxHeartbeats 4000000 in
set_option maxRecDepth 100000 in
theorem visit_any {l : List In} {w0 : World} {v : Value} {b g : Nat} (hr : ∀ i ∈ l, rightB i = true) (hl : l.length ≤ 40) (hs : Sl w0 (fun k => k < w0.heap.size) 5 v l.length (icells l)) (hb : w0.heap.size ≤ b) (hg : w0.heap.size ≤ g) (hne : b ≠ g) :
    ∀ (f : Nat) (s : List Bool) (p : Nat) (w : World), Blk w b #[v, .slice (some ⟨g, 0, none⟩) l.length l.length] 92 → Blk w g (bools s) 4 → s.length = l.length → Chg (fun q => w0.heap.size ≤ q) w0 w → p ≤ l.length → l.length < f + s.count true →
      Calls Tryz.prog 31 #[.pointer (some ⟨b, 0, none⟩), .int .i64 p] w (RetW (.tuple #[]) fun w' => Blk w' g (bools (dfs (nxN l) l.length f s p)) 4 ∧ Chg (· = g) w w')
  | 0, s, p, w, _, _, hsl, _, _, hf => by have := count_max s; omega
  | f + 1, s, p, w, hB, hG, hsl, hC, hp, hf => by
    have ih := Lib.hid (visit_any hr hl hs hb hg hne f)
    obtain ⟨pv, cv, rfl⟩ := hs.form
    have HS := Lib.hid hs
    have HR := Lib.hid hr
    have x0 := hB.cell' (i := 0) (v := .slice pv l.length cv) (by rfl)
    have x1 := hB.cell' (i := 1) (v := .slice (some ⟨g, 0, none⟩) l.length l.length) (by rfl)
    have hbl := hB.lt
    have hgl := hG.lt
    have HB := Lib.hid hB
    have HG := Lib.hid hG
    have HC := Lib.hid hC
    have HSL := Lib.hid hsl
    have HF := Lib.hid hf
    clear hB hG hC hsl hf hr hs
    by_cases h1 : l.length ≤ p
    · have t1 : decide ((l.length : Int) ≤ p) = true := by simp; omega
      have t1' : decide (l.length ≤ p) = true := by simp; omega
      have hd : dfs (nxN l) l.length (f + 1) s p = s := by unfold dfs; rw [if_pos (.inl h1)]
      have HD := Lib.hid hd
      clear hd h1
      go_enter Tryz.func31, Tryz.ntmps31
      go_wp2_with fail
      go_end0
      exact ⟨rfl, by rw [HD.out]; exact HG.out, Chg.refl _ _⟩
    · have hpl : p < l.length := by omega
      have t1 : decide ((l.length : Int) ≤ p) = false := by simp; omega
      have t1' : decide (l.length ≤ p) = false := by simp; omega
      have y0 := HG.out.cell' (i := p) (bools_at (by have := HSL.out; omega))
      have hfz := HG.out.frozen p
      have p0 : (0 : Int) ≤ p := by omega
      by_cases h2 : mk s p = true
      · rw [h2] at y0
        have hd : dfs (nxN l) l.length (f + 1) s p = s := by unfold dfs; rw [if_pos (.inr h2)]
        have HD := Lib.hid hd
        clear hd h1 h2
        go_enter Tryz.func31, Tryz.ntmps31
        go_wp2_with fail
        go_end0
        exact ⟨rfl, by rw [HD.out]; exact HG.out, Chg.refl _ _⟩
      · have h2' : mk s p = false := by simpa using h2
        rw [h2'] at y0
        have hd : dfs (nxN l) l.length (f + 1) s p = (nxN l p).foldl (dfs (nxN l) l.length f) (s.set p true) := by
          show (if l.length ≤ p ∨ mk s p = true then _ else _) = _
          rw [if_neg (by rintro (h | h); omega; exact h2 h)]
        have HD := Lib.hid hd
        have hcs := count_set (s := s) (p := p) (by have := HSL.out; omega) h2'
        have HCS := Lib.hid hcs
        have CS := (Chg.refl (· = g) w).setCell (a := ⟨g, p, none⟩) (.inl rfl) (.bool true)
        have BS := HG.out.set p (.bool true)
        rw [bools_set] at BS
        have BB := HB.out.set_ne (a := ⟨g, p, none⟩) hne (.bool true)
        have z0 := BB.cell' (i := 0) (v := .slice pv l.length cv) (by rfl)
        have HBS := Lib.hid BS
        have HBB := Lib.hid BB
        have HCS2 := Lib.hid CS
        have HW := Lib.hid (HC.out.trans CS fun q hq e => by have e := e; omega)
        clear hd h1 h2 h2' hcs BS BB CS
        go_enter Tryz.func31, Tryz.ntmps31
        go_wp2_with fail
        refine (fnext_any _ _ l p _ (HS.out.chg HW.out fun k hk e => by omega) hl HR.out).mono ?_
        rintro e w1 ⟨v1, rfl, hI, C1⟩
        rw [nextF_nx] at hI
        obtain ⟨p1, c1, rfl, hP⟩ := hI.place
        have HI := Lib.hid hP
        have hgB : g < (w.setCell ⟨g, p, none⟩ (.bool true)).heap.size := by simpa using hgl
        obtain ⟨ns, hns⟩ : ∃ ns, nxN l p = ns := ⟨_, rfl⟩
        have hnl : ∀ n ∈ ns, n ≤ l.length := by rw [← hns]; exact nxN_le hpl
        have hn2 : ns.length ≤ 2 := by rw [← hns, nxN_len]; exact nextF_len _ _
        rw [hns] at HD HI ⊢
        have HC1 := Lib.hid (HCS2.out.trans C1 fun q _ h => h.elim)
        have hG1 := C1.blk0 HBS.out
        have HB1 := Lib.hid (C1.blk0 HBB.out)
        have HW1 := Lib.hid (HW.out.then0 C1)
        have HNL := Lib.hid hnl
        clear hI hP C1 x0 x1 y0 hfz hnl z0 hns
        go_wp2_with fail
        go_loopg [35] ns.length (fun gk ix wr => ∃ k : Nat, k + gk = ns.length ∧ ix = .int .i64 k ∧ Blk wr g (bools ((ns.take k).foldl (dfs (nxN l) l.length f) (s.set p true))) 4 ∧ Chg (· = g) w wr ∧ Chg (· = g) w1 wr)
        case atStart => exact ⟨0, by omega, rfl, hG1, HC1.out, Chg.refl _ _⟩
        case round =>
          obtain ⟨k, hk, rfl, hGk, hCk, hCk1⟩ := hrel
          have HK := Lib.hid hk
          have HGK := Lib.hid hGk
          have HCK := Lib.hid hCk
          have HCK1 := Lib.hid hCk1
          have hkl : k ≤ ns.length := by omega
          clear hG1 hk hGk hCk hCk1
          by_cases hlt : k < ns.length
          · obtain ⟨n, hn⟩ : ∃ n, ns[k]? = some n := ⟨ns[k], by simp [hlt]⟩
            obtain ⟨hcap, g1, o1, rfl, hgB1, hg1, x0⟩ := HI.out k n hn
            have k0 : (0 : Int) ≤ k := by omega
            have k1 : (k : Int) < ns.length := by omega
            have hnl := HNL.out n (List.mem_of_getElem? hn)
            have hle := foldl_Le (N := l.length) (dfs (nxN l) l.length f) (fun s' q h' => dfs_Le f s' q h') (ns.take k) (s.set p true) (by have := HSL.out; simpa using this)
            have hcnt := count_le hle
            have hft := fold_take (dfs (nxN l) l.length f) (s.set p true) ns k n hn
            have HFT := Lib.hid hft
            have x0 := HCK1.out.cell x0 (fun e => by have e : g1 = g := e; omega)
            generalize hsk : (ns.take k).foldl (dfs (nxN l) l.length f) (s.set p true) = sk at *
            have hskl : sk.length = l.length := by have := hle.1; have := HSL.out; simp at *; omega
            have HHN := Lib.hid hn
            have HGN := Lib.hid hskl
            have HCN := Lib.hid hcnt
            clear hn hle hcnt hft hsk hskl hgB hgB1
            go_wp2_with fail
            refine (ih.out sk n _ (HCK1.out.blk HB1.out hne) HGK.out HGN.out (HW1.out.trans HCK1.out fun q _ e => by have e : q = g := e; omega) hnl (by have := HF.out; have := HCS.out; have := HCN.out; omega)).mono ?_
            rintro e w2 ⟨rfl, G2, C2⟩
            have HG2 := Lib.hid G2
            have HC2 := Lib.hid C2
            clear G2 C2
            go_wp2_with fail
            go_roundg (ns.length - (k + 1))
            case measure => have := HK.out; omega
            case rel => exact ⟨k + 1, by have := HK.out; omega, by go_num, by rw [HFT.out]; exact HG2.out, HCK.out.step HC2.out, HCK1.out.step HC2.out⟩
          · obtain rfl : k = ns.length := by omega
            rw [List.take_length] at HGK
            go_wp2_with fail
            go_end0
            exact ⟨rfl, by rw [HD.out]; exact HGK.out, HCK.out⟩

/-- A slice that reads as truth values, in blocks from B on. -/
def BAtN (B : Nat) (w : World) (v : Value) (s : List Bool) : Prop := Sl w (fun k => B ≤ k) 1 v s.length (s.map Value.bool)
theorem BAtN.of {B : Nat} {w : World} {g n c : Nat} {s t : List Bool} (hb : Blk w g (bools s) 4) (hB : B ≤ g) (ht : t = s.take n) (hn : n ≤ s.length) (hc : n ≤ c) : BAtN B w (.slice (some ⟨g, 0, none⟩) n c) t := by
  have hl : t.length = n := by rw [ht, List.length_take]; omega
  unfold BAtN
  rw [hl]
  refine Sl.of (by simp [hl]) hc hB hb.lt fun j u hu => ?_
  rw [Nat.zero_add]
  refine hb.cell' ?_
  have hj := (List.getElem?_eq_some_iff.1 hu).1
  rw [List.length_map, hl] at hj
  rw [ht, List.getElem?_map, List.getElem?_take_of_lt hj] at hu
  simpa [bools] using hu
theorem BAtN.spot {B : Nat} {w : World} {p : Option Addr} {n c : Nat} {s : List Bool} (h : BAtN B w (.slice p n c) s) {k : Nat} (hk : k < s.length) : n = s.length ∧ n ≤ c ∧ ∃ g of, p = some ⟨g, of, none⟩ ∧ g < w.heap.size ∧ w.cell? ⟨g, of + k, none⟩ = some (.bool (mk s k)) := by
  obtain ⟨-, p', c', e, hc, hs⟩ := h
  cases e
  obtain ⟨g, of, hp, -, hg, hcell⟩ := hs (by omega)
  refine ⟨rfl, hc, g, of, hp, hg, hcell k _ ?_⟩
  unfold mk
  simp [hk]
theorem BAtN.form {B : Nat} {w : World} {v : Value} {s : List Bool} (h : BAtN B w v s) : ∃ p c, v = .slice p s.length c := Sl.form h
theorem BAtN.chg0 {B : Nat} {w w' : World} {v : Value} {s : List Bool} (h : BAtN B w v s) (c : Chg NoB w w') : BAtN B w' v s := Sl.chg0 h c

set_option maxHeartbeats 1000000 in
set_option maxRecDepth 100000 in
theorem reach_any (S : Nat → Prop) (v : Value) (l : List In) (w : World) (hs : Sl w S 5 v l.length (icells l)) (hl : l.length ≤ 40) (hr : ∀ i ∈ l, rightB i = true) :
    Calls Tryz.prog 8 #[v] w (RetSl fun y w' => BAtN w.heap.size w' y ((fromF (nxN l) l.length [0]).take l.length) ∧ Chg NoB w w') := by
  obtain ⟨i0, hi0, hz0, hz1, hz2⟩ := info_parts BoolInfo
  have hmk : ∀ W, (Instr.makeSlice 34 (.int .i64 l.length) (.int .i64 l.length)).run Tryz.prog W = .ok (.slice (some ⟨W.heap.size, 0, none⟩) l.length l.length) (W.alloc (.cells (bools (List.replicate l.length false)) 4)) := by
    intro W
    have h := run_make (P := Tryz.prog) W 34 4 i0 _ Tryz.underlying34 hi0 hz0 .i64 .i64 l.length l.length (by omega) (by omega) (by rw [hz2]; omega) (by omega)
    rw [hz1, Int.toNat_natCast, made_bools] at h
    exact h
  obtain ⟨pv, cv, rfl⟩ := hs.form
  have hs' := hs.monoIn (S' := fun k => k < w.heap.size) fun k h _ => h
  have HS := Lib.hid hs'
  have HR := Lib.hid hr
  have hdf := dfs_fromF (nx := nxN l) (N := l.length) (fun p hp => nxN_le hp)
  have HDF := Lib.hid hdf
  have A1 := (Chg.refl NoB w).alloc (.cells (bools (List.replicate l.length false)) 4)
  have B1 := Blk.new w (bools (List.replicate l.length false)) 4
  have A2 := A1.alloc (.cells #[.slice pv l.length cv, .slice (some ⟨w.heap.size, 0, none⟩) l.length l.length] 92)
  have B2 := Blk.new (w.alloc (.cells (bools (List.replicate l.length false)) 4)) #[.slice pv l.length cv, .slice (some ⟨w.heap.size, 0, none⟩) l.length l.length] 92
  have B1' := B1.alloc (.cells #[.slice pv l.length cv, .slice (some ⟨w.heap.size, 0, none⟩) l.length l.length] 92)
  have e1 : (w.alloc (.cells (bools (List.replicate l.length false)) 4)).heap.size = w.heap.size + 1 := by simp
  rw [e1] at B2
  have HA2 := Lib.hid A2
  have HB1 := Lib.hid B1'
  have HB2 := Lib.hid B2
  clear A1 B1 A2 B2 B1' e1 hs hs' hr hdf
  go_enter Tryz.func8, Tryz.ntmps8
  go_wp2_with fail
  refine (visit_any HR.out hl HS.out (b := w.heap.size + 1) (g := w.heap.size) (by omega) (by omega) (by omega) (l.length + 1) (List.replicate l.length false) 0 _ HB2.out HB1.out (by simp) (HA2.out.mono fun _ _ h => h.elim) (by omega) (by omega)).mono ?_
  rintro e w1 ⟨rfl, G1, C1⟩
  rw [HDF.out] at G1
  have x1 := (C1.blk HB2.out (by omega)).cell' (i := 1) (v := .slice (some ⟨w.heap.size, 0, none⟩) l.length l.length) (by rfl)
  have HG1 := Lib.hid G1
  have HC1 := Lib.hid C1
  clear G1 C1
  go_wp2_with fail
  go_ret
  have hln : ((fromF (nxN l) l.length [0]).take l.length).length = l.length := by
    rw [List.length_take, fromF_len (nx := nxN l) (N := l.length) (fun p hp => nxN_le hp)]; omega
  exact ⟨_, rfl, BAtN.of HG1.out (Nat.le_refl _) (by rw [List.take_take, Nat.min_self]) (by omega) (Nat.le_refl _), HA2.out.trans HC1.out fun q hq e => by have e : q = w.heap.size := e; omega⟩
end Go.Proofs.YtapmojfebljjnaaGreat
set_option linter.unusedVariables false
namespace Go.Proofs.YtapmojfebljjnaaGreat
open Go.RowKit Go.RR



end Go.Proofs.YtapmojfebljjnaaGreat
