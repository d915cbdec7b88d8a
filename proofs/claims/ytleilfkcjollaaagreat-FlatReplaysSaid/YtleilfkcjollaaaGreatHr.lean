/- Facts replayed: bytes of a word, the memory that is read and written. No condition. -/
import Derived.Test.YtleilfkcjollaaaGreatGg
import Derived.Test.YtleilfkcjollaaaGreatGf
import Derived.Test.YtleilfkcjollaaaGreatGa
import Derived.Test.YtleilfkcjollaaaGreatHl
set_option linter.unusedVariables false
set_option linter.unusedSimpArgs false
namespace Go.Proofs.YtleilfkcjollaaaGreat
open Go.RowKit Go.RR
theorem mlook_mput {m : List (Int × Value)} {a : Int} {v : Value} (x : Int) : mlook (mput m a v) x = if x = a then some v else mlook m x := by
  induction m with
  | nil =>
    by_cases h : x = a
    · simp [mput, mlook, h]
    · have : ¬ a = x := fun e => h e.symm
      simp [mput, mlook, h, this]
  | cons p m ih =>
    unfold mput
    by_cases hp : p.1 = a
    · rw [if_pos hp]
      by_cases h : x = a
      · simp [mlook, h]
      · have h1 : (a == x) = false := by simpa using fun e => h e.symm
        have h2 : (p.1 == x) = false := by rw [hp]; exact h1
        simp [mlook, h, h1, h2]
    · rw [if_neg hp]
      by_cases h : x = a
      · have h2 : (p.1 == x) = false := by rw [h]; simpa using hp
        have := ih
        simp only [mlook, List.find?_cons, h2] at this ⊢
        exact this
      · have := ih
        rw [if_neg h] at this ⊢
        cases h2 : (p.1 == x)
        · simp only [mlook, List.find?_cons, h2] at this ⊢
          exact this
        · simp only [mlook, List.find?_cons, h2]
theorem mkS (s : Nat) (h : s ≤ 8) (W : World) : (Instr.makeSlice 48 (.int .i64 s) (.int .i64 s)).run Tryz.prog W = .ok (.slice (some ⟨W.heap.size, 0, none⟩) s s) (W.alloc (.cells (bcells (fun _ => 0) s).toArray 5)) := by
  obtain ⟨i0, hi0, hz0, hz1, hz2⟩ := info_parts b_elem
  have h := run_make (P := Tryz.prog) W 48 5 i0 _ Tryz.underlying48 hi0 hz0 .i64 .i64 s s (by omega) (by omega) (by rw [hz2]; omega) (by omega)
  rw [hz1] at h
  rw [← made0 s]
  simp only [Int.toNat_natCast, Nat.mul_one] at h
  exact h
theorem bytesW_cells (v s : Nat) : bcells (putW (fun _ => 0) 0 s v) s = bc (bytesW v s) := by
  unfold bcells bc
  apply List.ext_getElem?
  intro i
  rw [List.getElem?_map, List.getElem?_map]
  by_cases h : i < s
  · rw [List.getElem?_range h, bytesW_get s v i h]
    show some (Value.int .u8 ((if 0 ≤ i ∧ i < 0 + s then v / 256 ^ (i - 0) % 256 else 0 : Nat) : Int)) = _
    rw [if_pos ⟨by omega, by omega⟩, Nat.sub_zero]
    rfl
  · rw [List.getElem?_eq_none (by simp; omega), List.getElem?_eq_none (by rw [bytesW_len]; omega)]
    rfl
set_option maxHeartbeats 1000000 in
set_option maxRecDepth 100000 in
theorem wBytes_any (v s : Nat) (hs : sizeB s = true) (hv : v < 18446744073709551616) (w : World) : Calls Tryz.prog 77 #[.int .u64 v, .int .i64 s] w (RetW (.slice (some ⟨w.heap.size, 0, none⟩) s s) fun w' => Blk w' w.heap.size (bc (bytesW v s)).toArray 5 ∧ Chg NoB w w') := by
  have hs8 : 1 ≤ s ∧ s ≤ 8 := by rcases sizeB_of hs with h | h | h | h <;> omega
  have HS := Lib.hid (size_any s w)
  rw [hs] at HS
  have mk := mkS s hs8.2
  have hB := Blk.new w (bcells (fun _ => 0) s).toArray 5
  have ca := (Chg.refl NoB w).alloc (.cells (bcells (fun _ => 0) s).toArray 5)
  have HP : Hid (Calls Tryz.prog 115 #[.slice (some ⟨w.heap.size, 0, none⟩) s s, .int .i64 0, .int .i64 s, .int .u64 v] (w.alloc (.cells (bcells (fun _ => 0) s).toArray 5)) (RetW (.bool true) fun w' => Blk w' w.heap.size (bc (bytesW v s)).toArray 5 ∧ Chg (· = w.heap.size) (w.alloc (.cells (bcells (fun _ => 0) s).toArray 5)) w')) := Lib.hid (by
    have := put_any (fun _ => 0) w.heap.size s 0 s v s 5 _ hB (by omega) (Nat.le_refl _) hs (by omega) hv
    rw [bytesW_cells] at this
    exact this)
  have HC := Lib.hid ca
  clear hB ca hs8 hs
  go_enter Tryz.func77, Tryz.ntmps77
  go_wp2_with fail
  with_reducible refine HS.out.mono ?_
  rintro e w1 ⟨rfl, hw⟩
  subst hw
  go_wp2_with fail
  with_reducible refine HP.out.mono ?_
  rintro e w2 ⟨rfl, hB2, C2⟩
  have HB := Lib.hid (And.intro hB2 (HC.out.trans C2 fun k hk e => by have e : k = w1.heap.size := e; omega))
  clear hB2 C2
  go_wp2_with fail
  go_ret
  exact ⟨rfl, HB.out⟩
/-- A memory of bytes: a map that reads as g. -/
def MemM (w : World) (mb : Nat) (g : Nat → Nat) : Prop := ∃ m, MapAt w mb .u64 m ∧ ∀ x : Nat, (mlook m x).getD (.int .u8 0) = .int .u8 (g x)
theorem MemM.chg {w w' : World} {S : Nat → Prop} {mb : Nat} {g : Nat → Nat} (h : MemM w mb g) (c : Chg S w w') (hn : ¬ S mb) : MemM w' mb g := by
  obtain ⟨m, h1, h2⟩ := h
  exact ⟨m, h1.chg c hn, h2⟩
theorem MemM.lt {w : World} {mb : Nat} {g : Nat → Nat} (h : MemM w mb g) : mb < w.heap.size := by
  obtain ⟨m, h1, h2⟩ := h
  exact h1.lt
theorem U8i : (Tryz.prog.info? 5).map (fun i => (i.zero, i.size, i.bytes)) = some (some (.int .u8 0), 1, 1) := by kernel_rfl
theorem MemM.look {w : World} {mb : Nat} {g : Nat → Nat} (h : MemM w mb g) (x : Nat) : (Instr.lookup 91 (.map (some mb)) (.int .u64 x) false).run Tryz.prog w = .ok (.int .u8 (g x)) w := by
  obtain ⟨m, h1, h2⟩ := h
  obtain ⟨i0, hi0, hz0, hz1, hz2⟩ := info_parts U8i
  have := run_look1 (P := Tryz.prog) Tryz.underlying91 Tryz.underlying81 hi0 hz0 h1 x
  rwa [h2] at this
/-- The address of the i-th byte of a word. -/
def adr (a i : Nat) : Nat := (a + i) % 18446744073709551616
/-- A word's bytes in memory. -/
def ldM (g : Nat → Nat) (a : Nat) : By := fun i => g (adr a i)
/-- Memory with the first n bytes of a word laid. -/
def stM (g : Nat → Nat) (a v : Nat) : Nat → (Nat → Nat)
  | 0 => g
  | n + 1 => fun x => if x = adr a n then v / 256 ^ n % 256 else stM g a v n x
theorem stM_ok {g : Nat → Nat} (h : ∀ x, g x < 256) (a v : Nat) : ∀ n x, stM g a v n x < 256
  | 0, x => h x
  | n + 1, x => by
    unfold stM
    split
    · exact Nat.mod_lt _ (by omega)
    · exact stM_ok h a v n x
/-- The first bytes that were read. -/
def preM (g : Nat → Nat) (a i : Nat) : By := fun j => if j < i then ldM g a j else 0
set_option maxHeartbeats 2000000 in
set_option maxRecDepth 100000 in
theorem mLoad_any {w : World} {mb : Nat} {g : Nat → Nat} (h : MemM w mb g) (hg : ∀ x, g x < 256) (a s : Nat) (hs : sizeB s = true) (ha : a < 18446744073709551616) :
    Calls Tryz.prog 44 #[.map (some mb), .int .u64 a, .int .i64 s] w (RetW (.int .u64 (getW (ldM g a) 0 s)) fun w' => Chg NoB w w') := by
  have hs8 : 1 ≤ s ∧ s ≤ 8 := by rcases sizeB_of hs with h | h | h | h <;> omega
  have mk := mkS s hs8.2
  have HB := Lib.hid (Blk.new w (bcells (fun _ => 0) s).toArray 5)
  have HC := Lib.hid ((Chg.refl NoB w).alloc (.cells (bcells (fun _ => 0) s).toArray 5))
  have H := Lib.hid h
  have HS := Lib.hid (And.intro hs hg)
  have hlt := h.lt
  have HLT := Lib.hid hlt
  have s8 := hs8.2
  clear h hg hs hs8 hlt
  go_enter Tryz.func44, Tryz.ntmps44
  go_wp2_with fail
  generalize w.alloc (.cells (bcells (fun _ => 0) s).toArray 5) = w0 at *
  obtain ⟨b, hb⟩ : ∃ b, w.heap.size = b := ⟨_, rfl⟩
  rw [hb] at HB HLT
  simp only [hb]
  have HBE := Lib.hid hb
  clear hb mk
  go_loopg [15] s (fun k v wr => ∃ i : Nat, v = .int .i64 i ∧ i ≤ s ∧ k = s - i ∧ Blk wr b (bcells (preM g a i) s).toArray 5 ∧ Chg (fun k => k = b) w0 wr)
  case atStart => exact ⟨0, rfl, by omega, by omega, HB.out, Chg.refl _ _⟩
  case round =>
    obtain ⟨i, rfl, his, hk, hB, hC⟩ := hrel
    have HK := Lib.hid hk
    have HBr := Lib.hid hB
    have HCr := Lib.hid hC
    clear hk hC
    by_cases hi : i < s
    · have t1 : decide ((i : Int) < s) = true := decide_eq_true (by omega)
      have t2 : decide (i < s) = true := decide_eq_true hi
      have hM := ((H.out.chg HC.out id).chg HCr.out (fun e => by have := HLT.out; omega))
      have hl := hM.look (adr a i)
      have q1 : IntKind.u64.wrap ((a : Int) + i) = (adr a i : Nat) := by rw [IntKind.wrap_u64]; unfold adr; omega
      have hx := hB.cell' (i := i) (v := .int .u8 (preM g a i i)) (by simpa using bcells_get (g := preM g a i) hi)
      have hf := hB.frozen i
      have hbl := hB.lt
      have HX : Hid (∀ w', w' = wr → Blk (w'.setCell ⟨b, i, none⟩ (.int .u8 (g (adr a i)))) b (bcells (preM g a (i + 1)) s).toArray 5 ∧ Chg (fun k => k = b) w0 (w'.setCell ⟨b, i, none⟩ (.int .u8 (g (adr a i))))) := Lib.hid (fun w' e => by
        subst e
        refine ⟨?_, HCr.out.setCell (a := ⟨b, i, none⟩) (.inl rfl) _⟩
        have := HBr.out.set i (.int .u8 (g (adr a i)))
        rw [List.setIfInBounds_toArray, bcells_set] at this
        have e : (fun j => if j = i then g (adr a i) else preM g a i j) = preM g a (i + 1) := funext fun j => by
          unfold preM
          by_cases e : j = i
          · subst e; rw [if_pos rfl, if_pos (by omega)]; rfl
          · rw [if_neg e]
            by_cases e2 : j < i
            · rw [if_pos e2, if_pos (by omega)]
            · rw [if_neg e2, if_neg (by omega)]
        rw [e] at this
        exact this)
      generalize g (adr a i) = x at hl HX
      generalize preM g a i i = y at hx
      clear hM hB
      go_wp2_with fail
      go_roundg (s - (i + 1))
      case rel => exact ⟨i + 1, by go_num, by omega, rfl, (HX.out _ rfl).1, (HX.out _ rfl).2⟩
      case measure => rw [HK.out]; omega
    · have t1 : decide ((i : Int) < s) = false := decide_eq_false (by omega)
      have t2 : decide (i < s) = false := decide_eq_false hi
      have e : bcells (preM g a i) s = bcells (ldM g a) s := bcells_congr fun j hj => if_pos (by omega)
      have hG := get_any (fun k => k = b) (ldM g a) (fun x => HS.out.2 _) (.slice (some ⟨b, 0, none⟩) s s) s 0 s wr (Sl.of (by rw [bcells_len, Nat.mul_one]) (Nat.le_refl _) rfl hB.lt fun j u hu => by
        rw [Nat.zero_add]
        rw [e] at hB
        exact hB.cell' (by simpa using hu)) (by omega) HS.out.1 (by omega)
      have HG : Hid (Calls Tryz.prog 76 #[.slice (some ⟨b, 0, none⟩) s s, .int .i64 0, .int .i64 s] wr (RetW (.tuple #[.int .u64 (getW (ldM g a) 0 s), .bool true]) fun w' => w' = wr)) := Lib.hid hG
      have HFin : Hid (Chg NoB w wr) := Lib.hid (HC.out.trans HCr.out fun k hk e => by have e : k = b := e; have := HBE.out; omega)
      clear hB e hG
      go_wp2_with fail
      with_reducible refine HG.out.mono ?_
      rintro e w2 ⟨rfl, hw⟩
      subst hw
      go_wp2_with fail
      go_ret
      exact ⟨rfl, HFin.out⟩
set_option maxHeartbeats 2000000 in
set_option maxRecDepth 100000 in
theorem mStore_any {w : World} {mb : Nat} {g : Nat → Nat} (h : MemM w mb g) (a s v : Nat) (hs : sizeB s = true) (ha : a < 18446744073709551616) (hv : v < 18446744073709551616) :
    Calls Tryz.prog 45 #[.map (some mb), .int .u64 a, .int .i64 s, .int .u64 v] w (RetW (.tuple #[]) fun w' => MemM w' mb (stM g a v s) ∧ Chg (fun k => k = mb) w w') := by
  have hs8 : 1 ≤ s ∧ s ≤ 8 := by rcases sizeB_of hs with h | h | h | h <;> omega
  have HBy := Lib.hid (wBytes_any v s hs hv w)
  have H := Lib.hid h
  have hlt := h.lt
  have HLT := Lib.hid hlt
  have s8 := hs8.2
  clear h hs hs8 hlt
  go_enter Tryz.func45, Tryz.ntmps45
  go_wp2_with fail
  with_reducible refine HBy.out.mono ?_
  rintro e w0 ⟨rfl, hB, C0⟩
  obtain ⟨b, hb⟩ : ∃ b, w.heap.size = b := ⟨_, rfl⟩
  rw [hb] at hB HLT
  simp only [hb]
  have HBE := Lib.hid hb
  have HB := Lib.hid hB
  have HC0 := Lib.hid C0
  clear hb hB C0
  go_wp2_with fail
  go_loopg [14] s (fun k v' wr => ∃ i : Nat, v' = .int .i64 i ∧ i ≤ s ∧ k = s - i ∧ MemM wr mb (stM g a v i) ∧ Chg (fun k => k = mb) w0 wr)
  case atStart => exact ⟨0, rfl, by omega, by omega, H.out.chg HC0.out id, Chg.refl _ _⟩
  case round =>
    obtain ⟨i, rfl, his, hk, hM, hC⟩ := hrel
    have HK := Lib.hid hk
    have HCr := Lib.hid hC
    have hB := hC.blk HB.out (fun e => by have e : b = mb := e; have := HLT.out; omega)
    clear hk hC
    by_cases hi : i < s
    · have t1 : decide ((i : Int) < s) = true := decide_eq_true (by omega)
      have t2 : decide (i < s) = true := decide_eq_true hi
      have q1 : IntKind.u64.wrap ((a : Int) + i) = (adr a i : Nat) := by rw [IntKind.wrap_u64]; unfold adr; omega
      have hx := hB.cell' (i := i) (v := .int .u8 (v / 256 ^ i % 256 : Nat)) (by
        show (bc (bytesW v s)).toArray[i]? = _
        rw [List.getElem?_toArray]
        unfold bc
        rw [List.getElem?_map, bytesW_get s v i hi]
        rfl)
      have hbl := hB.lt
      obtain ⟨m, hm1, hm2⟩ := hM
      have HPut : Hid (∀ w', MapAt w' mb .u64 (mput m (adr a i : Nat) (.int .u8 (v / 256 ^ i % 256 : Nat))) → MemM w' mb (stM g a v (i + 1))) := Lib.hid (fun w' hm => ⟨_, hm, fun x => by
        rw [mlook_mput]
        show _ = Value.int .u8 ((if x = adr a i then v / 256 ^ i % 256 else stM g a v i x : Nat) : Int)
        by_cases e : x = adr a i
        · rw [if_pos e, if_pos (by rw [e])]; rfl
        · rw [if_neg e, if_neg (fun e2 => e (by exact Int.ofNat_inj.1 e2))]; exact hm2 x⟩)
      generalize v / 256 ^ i % 256 = y at hx HPut
      generalize adr a i = z at q1 HPut
      clear hB hm2
      go_wp2_with (refine wpList_mapput rfl _ _ _ 91 81 5 rfl Tryz.underlying91 Tryz.underlying81 rfl hm1 z rfl (.int .u8 y) rfl ?_)
      intro w3 hm3 C3
      have HX := Lib.hid (And.intro (HPut.out w3 hm3) (HCr.out.step C3))
      clear hm3 C3 hm1 hx hbl
      go_wp2_with fail
      go_roundg (s - (i + 1))
      case rel => exact ⟨i + 1, by go_num, by omega, rfl, HX.out.1, HX.out.2⟩
      case measure => rw [HK.out]; omega
    · have t1 : decide ((i : Int) < s) = false := decide_eq_false (by omega)
      have t2 : decide (i < s) = false := decide_eq_false hi
      have HFin : Hid (MemM wr mb (stM g a v s) ∧ Chg (fun k => k = mb) w wr) := Lib.hid ⟨by rw [show s = i by omega]; exact hM, (HC0.out.mono (S' := fun k => k = mb) fun _ _ e => e.elim).trans HCr.out fun _ _ e => e⟩
      clear hB hM
      go_wp2_with fail
      refine bodyPost_end (results_none rfl _ _ _) rfl ?_
      exact ⟨rfl, HFin.out⟩
/-- Does an instruction tell what was there? -/
def tellB (access op : Int) : Bool := access == 1 || decide (30 ≤ op)
set_option maxHeartbeats 1000000 in
set_option maxRecDepth 100000 in
theorem tells_any (done : Bool) (i0 i1 i2 i3 i4 pc cause access addr size old new : Int) (w : World) : Calls Tryz.prog 43 #[.agg #[.bool done, .int .i64 i0, .int .i64 i1, .int .i64 i2, .int .i64 i3, .int .i64 i4, .int .u64 pc, .int .i64 cause, .int .i64 access, .int .u64 addr, .int .i64 size, .int .u64 old, .int .u64 new]] w (RetW (.bool (tellB access i0)) fun w' => Chg NoB w w') := by
  obtain ⟨b1, h1⟩ : ∃ b, (access == 1) = b := ⟨_, rfl⟩
  obtain ⟨b2, h2⟩ : ∃ b, decide (30 ≤ i0) = b := ⟨_, rfl⟩
  have HV : Hid (tellB access i0 = (b1 || b2)) := Lib.hid (by unfold tellB; rw [h1, h2])
  have HC := Lib.hid ((Chg.refl NoB w).alloc (.cells #[.bool done, .int .i64 i0, .int .i64 i1, .int .i64 i2, .int .i64 i3, .int .i64 i4, .int .u64 pc, .int .i64 cause, .int .i64 access, .int .u64 addr, .int .i64 size, .int .u64 old, .int .u64 new] 84))
  rw [HV.out]
  cases b1
  · go_enter Tryz.func43, Tryz.ntmps43
    go_wp2_with fail
    go_ret
    exact ⟨by first | rfl | (simp [h2]), HC.out⟩
  · go_enter Tryz.func43, Tryz.ntmps43
    go_wp2_with fail
    go_ret
    exact ⟨rfl, HC.out⟩
end Go.Proofs.YtleilfkcjollaaaGreat
