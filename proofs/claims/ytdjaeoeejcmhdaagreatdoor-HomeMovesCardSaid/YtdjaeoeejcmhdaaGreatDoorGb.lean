/- The audit: homes at rest: their pages, their states. No condition. A node's memory as plain functions: words of bytes, pages, entries of tables. Plain, no program. No condition. Entries of page tables and walks as plain functions. Plain, no program. No condition. The buffer of entries, rights and accesses as plain functions. Plain, no program. No condition. Instructions: their kinds, and which ones are right; what the program and the reference say of them. No condition. Instructions by the reference: rows, parts, right ones. No condition. Instructions by the reference: parts, right ones. No condition. A core as a plain function: instructions by words, registers, jumps, memory. Plain, no program. No condition. -/
import Derived.Test.YtdjaeoeejcmhdaaGreatDoorGa
import Derived.MapKept
import Derived.Test.YtdjaeoeejcmhdaaGreatDoorFa
import Derived.Laws.BitsAllLaws
import Derived.Test.YtdjaeoeejcmhdaaGreatDoorProg
import Derived.Deep.CutBlock
set_option linter.unusedVariables false
set_option linter.unusedSimpArgs false
namespace Go.Proofs.YtdjaeoeejcmhdaaGreatDoor
open Go.RowKit Go.RR
/-- A map whose entries bear their stamps: no key stands twice. -/
def Stm (w : World) (b : Nat) : Prop := ∃ es clock, w.heap[b]? = some (.map es clock) ∧ MapKept.Stamped es clock
theorem Stm.chg {w w' : World} {S : Nat → Prop} {b : Nat} (h : Stm w b) (c : Chg S w w') (hn : ¬ S b) : Stm w' b := by
  obtain ⟨es, clock, h1, h2⟩ := h
  exact ⟨es, clock, (c.block b (Array.getElem?_eq_some_iff.1 h1).1 hn).trans h1, h2⟩
theorem run_mapput_new {P : Program} {w : World} {b : Nat} {k : IntKind} {m : List (Int × Value)} {t kt e : TypeId} (ht : P.underlying t = some (.map kt e)) (hk : P.underlying kt = some (.int k)) (h : MapAt w b k m) (hs' : Stm w b) (a : Int) (hm : mlook m a = none) (v : Value) :
    ∃ w', (Instr.mapUpdate t (.map (some b)) (.int k a) v).run P w = .ok () w' ∧ MapAt w' b k (m ++ [(a, v)]) ∧ Stm w' b ∧ Chg (· = b) w w' := by
  obtain ⟨es, c, h1, h2⟩ := h
  obtain ⟨es', c', h1', h3⟩ := hs'
  rw [h1] at h1'
  cases h1'
  have hg : (getObj b).run P w = .ok (.map es c) w := by simp [getObj, Sem.run, h1]
  have hs : ∀ o, (setObj b o).run P w = .ok () { w with heap := w.heap.setIfInBounds b o } := fun o => by simp [setObj, Sem.run, h1]
  have hf := run_findKey (P := P) (w := w) hk a es.toList h2
  have hc := run_checkKey (P := P) (w := w) hk false a
  have hmi : midx m a = none := by
    cases e : midx m a with
    | none => rfl
    | some j =>
      obtain ⟨x, -, hx, -⟩ := midx_some e
      rw [hm] at hx
      cases hx
  rw [hmi] at hf
  simp only [Option.bind_none] at hf
  refine ⟨setMap w b (es.push { key := .int k a, val := v, born := c }) (c + 1), by simp [Instr.mapUpdate, run_underlying ht, hg, hc, hf, hs, setMap], ⟨_, _, setMap_at h1, by simp [h2]⟩, ⟨_, _, setMap_at h1, MapKept.stamped_push h3 fun x hx e => ?_⟩, setMap_chg _ _ _ _⟩
  have hx2 : (x.key, x.val) ∈ es.toList.map (fun e => (e.key, e.val)) := List.mem_map.2 ⟨x, hx, rfl⟩
  rw [h2, e] at hx2
  obtain ⟨q, hq, hq2⟩ := List.mem_map.1 hx2
  have hq1 : q.1 = a := by
    have := congrArg Prod.fst hq2
    simp only [Value.int.injEq, true_and] at this
    exact this
  unfold mlook at hm
  rw [Option.map_eq_none_iff, List.find?_eq_none] at hm
  exact hm q hq (by simp [hq1])
theorem wpList_mapput_new {P : Program} {w : World} {b : Nat} {k : IntKind} {m : List (Int × Value)} {ops : Array Oper} {rest : List Oper} {o : Oper} {a : Act} {Q : Exit → Act → World → Prop} (hgd : o.guard = none) (s x y : Operand) (t kt e : TypeId)
    (ho : o.op = .mapUpdate t s x y) (ht : P.underlying t = some (.map kt e)) (hk : P.underlying kt = some (.int k)) (hs : a.eval s = .map (some b)) (h : MapAt w b k m) (hst : Stm w b) (key : Int) (hm : mlook m key = none) (hx : a.eval x = .int k key) (v : Value) (hy : a.eval y = v)
    (hc : ∀ w', MapAt w' b k (m ++ [(key, v)]) → Stm w' b → Chg (· = b) w w' → wpList P ops Q rest (a.put o.dst undef) w') : wpList P ops Q (o :: rest) a w := by
  refine wpList_plain hgd fun K hK => ?_
  obtain ⟨w', hr, h2, h3, h4⟩ := run_mapput_new (P := P) ht hk h hst key hm v
  have hc2 := hK _ _ (hc w' h2 h3 h4)
  unfold Oper.wp execOp
  simp [ho, hs, hx, hy, hr, Oper.upon]
  exact hc2
/-- A home at rest: the pages that something was asked about. -/
structure Hm where
  hb : Nat
  mb : Nat
  sp : Nat
  me : Int
  nodes : Int
  code : Int
  priv : Int
  shared : Int
def Hm.cells (h : Hm) : Array Value := #[.int .i64 h.me, .int .i64 h.nodes, .pointer (some ⟨h.sp, 0, none⟩), .int .i64 h.code, .int .i64 h.priv, .int .i64 h.shared, .map (some h.mb)]
structure HmAt (w : World) (h : Hm) (ps : List (Int × Nat × Nat)) : Prop where
  blk : Blk w h.hb h.cells 68
  map : MapAt w h.mb .i64 (ps.map fun p => (p.1, .pointer (some ⟨p.2.1, 0, none⟩)))
  page : ∀ p ∈ ps, PgAt w p.2.1 p.2.2 h.me (p.1 % h.nodes) p.1
  st : Stm w h.mb
  kn : ∀ p ∈ ps, 0 ≤ p.1 ∧ p.1 < h.shared
theorem mapAt_ne {w : World} {b c : Nat} {k : IntKind} {m : List (Int × Value)} {cs : Array Value} {T : TypeId} (h : MapAt w b k m) (hb : Blk w c cs T) : c ≠ b := by
  rintro rfl
  obtain ⟨es, cl, h1, -⟩ := h
  have hb : w.heap[c]? = some (.cells cs T (0, 0)) := hb
  rw [h1] at hb
  cases hb
theorem PgAt.chg {w w' : World} {S : Nat → Prop} {pb rb : Nat} {me owner number : Int} (h : PgAt w pb rb me owner number) (c : Chg S w w') (h1 : ¬ S pb) (h2 : ¬ S rb) : PgAt w' pb rb me owner number := ⟨c.blk h.blk h1, c.blk h.ring h2⟩
theorem HmAt.chg0 {w w' : World} {h : Hm} {ps : List (Int × Nat × Nat)} (a : HmAt w h ps) (c : Chg NoB w w') : HmAt w' h ps := ⟨c.blk0 a.blk, a.map.chg c id, fun p hp => (a.page p hp).chg0 c, a.st.chg c id, a.kn⟩
theorem PPinfo3 : (Tryz.prog.info? 74).map (fun i => (i.zero, i.size, i.bytes)) = some (some (.pointer none), 1, 8) := by kernel_rfl
theorem HmAt.chg {w w' : World} {S : Nat → Prop} {h : Hm} {ps : List (Int × Nat × Nat)} (a : HmAt w h ps) (c : Chg S w w') (h1 : ¬ S h.hb) (h2 : ¬ S h.mb) (h3 : ∀ p ∈ ps, ¬ S p.2.1 ∧ ¬ S p.2.2) : HmAt w' h ps :=
  ⟨c.blk a.blk h1, a.map.chg c h2, fun p hp => (a.page p hp).chg c (h3 p hp).1 (h3 p hp).2, a.st.chg c h2, a.kn⟩
end Go.Proofs.YtdjaeoeejcmhdaaGreatDoor
set_option linter.unusedVariables false
set_option linter.unusedSimpArgs false
namespace Go.Proofs.YtdjaeoeejcmhdaaGreatDoor
open Go.RowKit Go.RR
/-- Bytes by their places. -/
abbrev By := Nat → Nat
def getW (f : By) : Nat → Nat → Nat
  | _, 0 => 0
  | at', n + 1 => f at' + 256 * getW f (at' + 1) n
def putW (f : By) (at' n v : Nat) : By := fun a => if at' ≤ a ∧ a < at' + n then v / 256 ^ (a - at') % 256 else f a
def ByOk (f : By) : Prop := ∀ a, f a < 256
theorem getW_lt {f : By} (h : ByOk f) : ∀ (n a : Nat), getW f a n < 256 ^ n
  | 0, a => by show 0 < 1; omega
  | n + 1, a => by
    have h1 := getW_lt h n (a + 1)
    have h2 := h a
    show f a + 256 * getW f (a + 1) n < 256 ^ (n + 1)
    rw [Nat.pow_succ]
    omega
theorem getW_congr {f g : By} : ∀ (n a : Nat), (∀ i, a ≤ i → i < a + n → f i = g i) → getW f a n = getW g a n
  | 0, a, _ => rfl
  | n + 1, a, h => by
    show f a + 256 * getW f (a + 1) n = g a + 256 * getW g (a + 1) n
    rw [h a (Nat.le_refl _) (by omega), getW_congr n (a + 1) fun i h1 h2 => h i (by omega) (by omega)]
theorem putW_ok {f : By} (h : ByOk f) (a n v : Nat) : ByOk (putW f a n v) := fun i => by
  unfold putW
  split
  · exact Nat.mod_lt _ (by omega)
  · exact h i
theorem putW_out {f : By} {a n v i : Nat} (h : i < a ∨ a + n ≤ i) : putW f a n v i = f i := by
  unfold putW
  rw [if_neg (by omega)]
theorem putW_in {f : By} {a n v i : Nat} (h1 : a ≤ i) (h2 : i < a + n) : putW f a n v i = v / 256 ^ (i - a) % 256 := by
  unfold putW
  rw [if_pos ⟨h1, h2⟩]
theorem getW_bytes (v : Nat) : ∀ (n a : Nat) (f : By), (∀ i, i < n → f (a + i) = v / 256 ^ i % 256) → getW f a n = v % 256 ^ n
  | 0, a, f, _ => by show 0 = v % 1; omega
  | n + 1, a, f, h => by
    have h0 := h 0 (by omega)
    have h1 := getW_bytes (v / 256) n (a + 1) f fun i hi => by
      rw [show a + 1 + i = a + (i + 1) by omega, h (i + 1) (by omega), Nat.pow_succ, Nat.mul_comm, ← Nat.div_div_eq_div_mul]
    show f a + 256 * getW f (a + 1) n = _
    rw [h1, Nat.pow_succ, Nat.mul_comm (256 ^ n), Nat.mod_mul]
    simp at h0
    rw [h0]
theorem getW_put (f : By) (a n v : Nat) : getW (putW f a n v) a n = v % 256 ^ n :=
  getW_bytes v n a _ fun i hi => by rw [putW_in (by omega) (by omega), Nat.add_sub_cancel_left]
theorem getW_put_ne (f : By) {a n v b m : Nat} (h : b + m ≤ a ∨ a + n ≤ b) : getW (putW f a n v) b m = getW f b m :=
  getW_congr m b fun i h1 h2 => putW_out (by omega)
theorem putW_step (f : By) (a n v : Nat) : putW f a (n + 1) v = fun i => if i = a + n then v / 256 ^ n % 256 else putW f a n v i := by
  funext i
  unfold putW
  by_cases h : i = a + n
  · rw [if_pos h, if_pos (by omega), h, Nat.add_sub_cancel_left]
  · rw [if_neg h]
    by_cases h2 : a ≤ i ∧ i < a + n
    · rw [if_pos h2, if_pos (by omega)]
    · rw [if_neg h2, if_neg (by omega)]
theorem putW_zero (f : By) (a v : Nat) : putW f a 0 v = f := by
  funext i
  unfold putW
  rw [if_neg (by omega)]
/-- The next step of reading a word from its end. -/
theorem getW_step (f : By) (a n : Nat) : getW f a (n + 1) = getW f (a + 1) n * 256 + f a := by
  show f a + 256 * getW f (a + 1) n = _
  omega
def sizeB (n : Int) : Bool := decide (n = 1) || (decide (n = 2) || (decide (n = 4) || decide (n = 8)))
theorem sizeB_of {n : Int} (h : sizeB n = true) : n = 1 ∨ n = 2 ∨ n = 4 ∨ n = 8 := by
  simpa [sizeB] using h
/-- Bytes as cells. -/
def bcells (g : By) (n : Nat) : List Value := (List.range n).map fun i => .int .u8 (g i)
theorem bcells_len (g : By) (n : Nat) : (bcells g n).length = n := by unfold bcells; simp
theorem bcells_get {g : By} {n i : Nat} (h : i < n) : (bcells g n)[i]? = some (.int .u8 (g i)) := by
  unfold bcells
  simp [h]
theorem bcells_set (g : By) (n i v : Nat) : (bcells g n).set i (.int .u8 v) = bcells (fun j => if j = i then v else g j) n := by
  apply List.ext_getElem?
  intro j
  rw [List.getElem?_set]
  by_cases hj : j < n
  · rw [bcells_get (g := fun j => if j = i then v else g j) hj]
    by_cases h : i = j
    · subst h
      rw [if_pos rfl, if_pos (by rw [bcells_len]; exact hj), if_pos rfl]
    · rw [if_neg h, bcells_get hj, if_neg (fun e => h e.symm)]
  · rw [List.getElem?_eq_none (by rw [bcells_len]; omega), List.getElem?_eq_none (l := bcells _ n) (by rw [bcells_len]; omega)]
    split
    · rw [if_neg (by rw [bcells_len]; omega)]
    · rfl
theorem bcells_congr {f g : By} {n : Nat} (h : ∀ i, i < n → f i = g i) : bcells f n = bcells g n := by
  unfold bcells
  apply List.map_congr_left
  intro i hi
  rw [h i (List.mem_range.1 hi)]
/-- A page's bytes, of all bytes. -/
def pgF (b : By) (f : Nat) : By := fun i => b (4096 * f + i)
theorem getW_pg (b : By) (f a n : Nat) : getW (pgF b f) a n = getW b (4096 * f + a) n := by
  induction n generalizing a with
  | zero => rfl
  | succ n ih =>
    show b (4096 * f + a) + 256 * getW (pgF b f) (a + 1) n = b (4096 * f + a) + 256 * getW b (4096 * f + a + 1) n
    rw [ih]
    rfl
theorem putW_pg (b : By) (f a n v : Nat) : putW (pgF b f) a n v = pgF (putW b (4096 * f + a) n v) f := by
  funext i
  unfold pgF putW
  by_cases h : a ≤ i ∧ i < a + n
  · rw [if_pos h, if_pos (by omega), show 4096 * f + i - (4096 * f + a) = i - a by omega]
  · rw [if_neg h, if_neg (by omega)]
theorem putW_pg_ne (b : By) {f a n v g : Nat} (h : g ≠ f) (ha : a + n ≤ 4096) : ∀ i, i < 4096 → pgF (putW b (4096 * f + a) n v) g i = pgF b g i := fun i hi => by
  unfold pgF
  rw [putW_out]
  by_cases h1 : g < f
  · have : 4096 * g + 4096 ≤ 4096 * f := by omega
    omega
  · have : 4096 * f + 4096 ≤ 4096 * g := by omega
    omega
end Go.Proofs.YtdjaeoeejcmhdaaGreatDoor
set_option linter.unusedVariables false
set_option linter.unusedSimpArgs false
namespace Go.Proofs.YtdjaeoeejcmhdaaGreatDoor
open Go.RowKit Go.RR
structure Pte where
  v : Bool
  r : Bool
  w : Bool
  x : Bool
  u : Bool
  g : Bool
  a : Bool
  d : Bool
  rsw : Int
  ppn : Nat
deriving DecidableEq
def Pte.zero : Pte := ⟨false, false, false, false, false, false, false, false, 0, 0⟩
def Pte.cs (p : Pte) : List Value := [.bool p.v, .bool p.r, .bool p.w, .bool p.x, .bool p.u, .bool p.g, .bool p.a, .bool p.d, .int .i64 p.rsw, .int .u64 p.ppn]
def Pte.val (p : Pte) : Value := .agg #[.bool p.v, .bool p.r, .bool p.w, .bool p.x, .bool p.u, .bool p.g, .bool p.a, .bool p.d, .int .i64 p.rsw, .int .u64 p.ppn]
/-- An entry that words may hold. -/
def Pte.Ok (p : Pte) : Prop := 0 ≤ p.rsw ∧ p.rsw < 4 ∧ p.ppn < 2 ^ 44
def flags (p : Pte) : Nat := p.v.toNat + 2 * p.r.toNat + 4 * p.w.toNat + 8 * p.x.toNat + 16 * p.u.toNat + 32 * p.g.toNat + 64 * p.a.toNat + 128 * p.d.toNat
def pteW (p : Pte) : Nat := (p.ppn % 17592186044416) * 1024 + (p.rsw % 4).toNat * 256 + flags p
def bitB (w i : Nat) : Bool := decide (w / 2 ^ i % 2 = 1)
def pteG (w : Nat) : Pte := ⟨bitB w 0, bitB w 1, bitB w 2, bitB w 3, bitB w 4, bitB w 5, bitB w 6, bitB w 7, (w / 256 % 4 : Nat), w % 18014398509481984 / 1024⟩
def pteOkW (w : Nat) : Bool := decide (w < 18014398509481984)
theorem flags_lt (p : Pte) : flags p < 256 := by
  unfold flags
  have := Bool.toNat_lt p.v; have := Bool.toNat_lt p.r; have := Bool.toNat_lt p.w; have := Bool.toNat_lt p.x
  have := Bool.toNat_lt p.u; have := Bool.toNat_lt p.g; have := Bool.toNat_lt p.a; have := Bool.toNat_lt p.d
  omega
theorem pteW_lt (p : Pte) : pteW p < 18014398509481984 := by
  unfold pteW
  have := flags_lt p
  omega
theorem bit_of {b : Bool} {n : Nat} (h : n = b.toNat) : decide (n = 1) = b := by subst h; cases b <;> rfl
theorem pteG_W {p : Pte} (h : p.Ok) : pteG (pteW p) = p := by
  obtain ⟨h1, h2, h3⟩ := h
  have hp : p.ppn % 17592186044416 = p.ppn := Nat.mod_eq_of_lt h3
  have e0 := Bool.toNat_lt p.v; have e1 := Bool.toNat_lt p.r; have e2 := Bool.toNat_lt p.w; have e3 := Bool.toNat_lt p.x
  have e4 := Bool.toNat_lt p.u; have e5 := Bool.toNat_lt p.g; have e6 := Bool.toNat_lt p.a; have e7 := Bool.toNat_lt p.d
  have hf := flags_lt p
  unfold pteG bitB pteW
  rw [hp]
  have hr : (p.rsw % 4).toNat = p.rsw.toNat := by rw [Int.emod_eq_of_lt h1 h2]
  rw [hr]
  have hr4 : p.rsw.toNat < 4 := by omega
  have q : ∀ i, i < 8 → (p.ppn * 1024 + p.rsw.toNat * 256 + flags p) / 2 ^ i % 2 = flags p / 2 ^ i % 2 := by
    intro i hi
    rcases (show i = 0 ∨ i = 1 ∨ i = 2 ∨ i = 3 ∨ i = 4 ∨ i = 5 ∨ i = 6 ∨ i = 7 by omega) with rfl | rfl | rfl | rfl | rfl | rfl | rfl | rfl <;> simp only [Nat.reducePow] <;> omega
  rw [q 0 (by omega), q 1 (by omega), q 2 (by omega), q 3 (by omega), q 4 (by omega), q 5 (by omega), q 6 (by omega), q 7 (by omega)]
  rw [bit_of (b := p.v) (by unfold flags; simp only [Nat.reducePow]; omega), bit_of (b := p.r) (by unfold flags; simp only [Nat.reducePow]; omega), bit_of (b := p.w) (by unfold flags; simp only [Nat.reducePow]; omega),
    bit_of (b := p.x) (by unfold flags; simp only [Nat.reducePow]; omega), bit_of (b := p.u) (by unfold flags; simp only [Nat.reducePow]; omega), bit_of (b := p.g) (by unfold flags; simp only [Nat.reducePow]; omega),
    bit_of (b := p.a) (by unfold flags; simp only [Nat.reducePow]; omega), bit_of (b := p.d) (by unfold flags; simp only [Nat.reducePow]; omega)]
  have r1 : (((p.ppn * 1024 + p.rsw.toNat * 256 + flags p) / 256 % 4 : Nat) : Int) = p.rsw := by omega
  have r2 : (p.ppn * 1024 + p.rsw.toNat * 256 + flags p) % 18014398509481984 / 1024 = p.ppn := by omega
  rw [r1, r2]
theorem pteOk_W (p : Pte) : pteOkW (pteW p) = true := decide_eq_true (pteW_lt p)
theorem pteG_ok (w : Nat) : (pteG w).Ok := by
  unfold pteG Pte.Ok
  dsimp only
  omega
def leafB (p : Pte) : Bool := p.r || p.x
def rightP8 (p : Pte) : Bool := p.v && (p.r || !p.w)
def canonB (va : Nat) : Bool := decide (va < 274877906944) || decide (18446743798831644672 ≤ va)
def idx (va l : Nat) : Nat := va / 2 ^ (12 + 9 * l) % 512
def vpn (va : Nat) : Nat := va / 4096 % 134217728
def joinF (ppn va l : Nat) : Nat := ppn * 4096 % 18446744073709551616 / 2 ^ (12 + 9 * l) * 2 ^ (12 + 9 * l) + va % 2 ^ (12 + 9 * l)
def evenB (ppn l : Nat) : Bool := decide (ppn % 2 ^ (9 * l) = 0)
def leadsB (p : Pte) (l : Nat) : Bool := decide (0 < l) && (!p.u && (!p.a && !p.d))
structure Leaf where
  p : Pte
  level : Int
  pos : Nat
deriving DecidableEq
def Leaf.zero : Leaf := ⟨Pte.zero, 0, 0⟩
def Leaf.val (l : Leaf) : Value := .agg #[l.p.val, .int .i64 l.level, .int .u64 l.pos]
/-- An entry of a table: an error's number or it. -/
def entryF (b : By) (fr a : Nat) : Pte × Int :=
  if fr ≤ a / 4096 then (Pte.zero, 61)
  else if pteOkW (getW b a 8) && rightP8 (pteG (getW b a 8)) then (pteG (getW b a 8), 0) else (Pte.zero, 51)
/-- The walk from a table of level l on. -/
def walkF (b : By) (fr : Nat) (va : Nat) : Nat → Nat → Leaf × Int
  | l, tab =>
    let a := tab * 4096 + 8 * idx va l
    let e := entryF b fr a
    if e.2 ≠ 0 then (Leaf.zero, e.2)
    else if leafB e.1 && evenB e.1.ppn l then (⟨e.1, l, a⟩, 0)
    else if leafB e.1 || !leadsB e.1 l then (Leaf.zero, 51)
    else match l with
      | 0 => (Leaf.zero, 51)
      | l + 1 => walkF b fr va l e.1.ppn
def findF (b : By) (fr : Nat) (root : Nat) (va : Nat) : Leaf × Int := if canonB va then walkF b fr va 2 root else (Leaf.zero, 51)
end Go.Proofs.YtdjaeoeejcmhdaaGreatDoor
set_option linter.unusedVariables false
set_option linter.unusedSimpArgs false
namespace Go.Proofs.YtdjaeoeejcmhdaaGreatDoor
open Go.RowKit Go.RR
structure Way where
  full : Bool
  asid : Int
  page : Nat
  leaf : Leaf
deriving DecidableEq
def Way.zero : Way := ⟨false, 0, 0, Leaf.zero⟩
def pageOf (va : Nat) (l : Int) : Nat := vpn va / 2 ^ (9 * l.toNat)
def Way.has (w : Way) (va : Nat) : Bool := w.full && decide (w.page = pageOf va w.leaf.level)
def Way.matches (w : Way) (va : Nat) (asid : Int) : Bool := w.has va && (decide (w.asid = asid) || w.leaf.p.g)
abbrev Tlb := List (List Way)
def tlbSet (b : Tlb) (page : Nat) : List Way := b.getD (page % b.length) []
/-- The first of a list's ways that serves, at a level. -/
def waysFind (s : List Way) (va : Nat) (asid : Int) (l : Int) : Option Leaf := (s.find? fun w => decide (w.leaf.level = l) && w.matches va asid).map (·.leaf)
def tlbFind (b : Tlb) (va : Nat) (asid : Int) : Option Leaf :=
  match waysFind (tlbSet b (pageOf va 0)) va asid 0 with
  | some l => some l
  | none => match waysFind (tlbSet b (pageOf va 1)) va asid 1 with
    | some l => some l
    | none => waysFind (tlbSet b (pageOf va 2)) va asid 2
def Way.same (w n : Way) : Bool := w.full && (decide (w.leaf.level = n.leaf.level) && (decide (w.page = n.page) && decide (w.asid = n.asid)))
def pickOf (pick : Int) : Nat := if pick < 0 then (-pick - 1).toNat else pick.toNat
def victimF (s : List Way) (n : Way) (pick : Int) : Nat :=
  match s.findIdx? (fun w => w.same n) with
  | some i => i
  | none => match s.findIdx? (fun w => !w.full) with
    | some i => i
    | none => pickOf pick % s.length
def newWay (va : Nat) (asid : Int) (l : Leaf) : Way := ⟨true, asid, pageOf va l.level, l⟩
def tlbFill (b : Tlb) (va : Nat) (asid : Int) (l : Leaf) (pick : Int) : Tlb :=
  List.set b (pageOf va l.level % b.length) ((tlbSet b (pageOf va l.level)).set (victimF (tlbSet b (pageOf va l.level)) (newWay va asid l) pick) (newWay va asid l))
/-- Does a way go, at a fence of one address? -/
def Way.goes (w : Way) (va : Nat) : Bool := w.has va
def tlbFence (b : Tlb) (va : Nat) : Tlb := b.map fun s => s.map fun w => if w.goes va then Way.zero else w
def tlbNew (sets ways : Nat) : Tlb := List.replicate sets (List.replicate ways Way.zero)
/-! Rights. Accesses: 0 fetch, 1 load, 2 store. -/
structure Mode where
  user : Bool
  sum : Bool
  mxr : Bool
def allowsB (p : Pte) (a : Int) (mxr : Bool) : Bool := if a = 0 then p.x else if a = 1 then p.r || (mxr && p.x) else if a = 2 then p.w && p.d else false
def checkB (p : Pte) (a : Int) (m : Mode) : Bool :=
  if !rightP8 p || !leafB p || !p.a then false
  else if m.user && !p.u then false
  else if !m.user && p.u && (decide (a = 0) || !m.sum) then false
  else allowsB p a m.mxr
def pageC (a : Int) : Int := if a = 0 then 12 else if a = 1 then 13 else if a = 2 then 15 else -1
def boundC (a : Int) : Int := if a = 0 then 1 else if a = 1 then 5 else if a = 2 then 7 else -1
def alignC (a : Int) : Int := if a = 0 then 0 else if a = 1 then 4 else if a = 2 then 6 else -1
structure Satp where
  on : Bool
  asid : Int
  ppn : Nat
/-- A unit: memory, buffer, where the tables begin, mode. -/
structure Mu where
  b : By
  fr : Nat
  tlb : Tlb
  satp : Satp
  mode : Mode
def findS (u : Mu) (va : Nat) : Leaf × Int := if u.satp.on then findF u.b u.fr u.satp.ppn va else (Leaf.zero, 2)
def leafF (u : Mu) (va : Nat) (a pick : Int) : (Leaf × Int) × Tlb :=
  match tlbFind u.tlb va u.satp.asid with
  | some l => ((l, -1), u.tlb)
  | none =>
    let r := findS u va
    if r.2 = 0 then ((r.1, -1), tlbFill u.tlb va u.satp.asid r.1 pick)
    else if r.2 = 61 then ((r.1, boundC a), u.tlb)
    else ((r.1, pageC a), u.tlb)
def alignedB (at' : Nat) (size : Int) : Bool := sizeB size && decide (at' % size.toNat = 0)
def placeF (u : Mu) (va : Nat) (size a pick : Int) : (Nat × Int) × Tlb :=
  if !alignedB va size then ((0, alignC a), u.tlb)
  else
    let r := leafF u va a pick
    if r.1.2 ≠ -1 then ((0, r.1.2), r.2)
    else if !checkB r.1.1.p a u.mode then ((0, pageC a), r.2)
    else
      let at' := joinF r.1.1.p.ppn va r.1.1.level.toNat
      if u.fr ≤ at' / 4096 then ((0, boundC a), r.2) else ((at', -1), r.2)
def readF (u : Mu) (va : Nat) (size a pick : Int) : (Nat × Int) × Mu :=
  let r := placeF u va size a pick
  if r.1.2 ≠ -1 then ((0, r.1.2), { u with tlb := r.2 }) else ((getW u.b r.1.1 size.toNat, -1), { u with tlb := r.2 })
def storeF (u : Mu) (va : Nat) (size : Int) (v : Nat) (pick : Int) : Int × Mu :=
  let r := placeF u va size 2 pick
  if r.1.2 ≠ -1 then (r.1.2, { u with tlb := r.2 }) else (-1, { u with tlb := r.2, b := putW u.b r.1.1 size.toNat v })
end Go.Proofs.YtdjaeoeejcmhdaaGreatDoor
set_option linter.unusedVariables false
namespace Go.Proofs.YtdjaeoeejcmhdaaGreatDoor
open Go.RowKit Go.RR









/-- An instruction. -/
structure In where
  op : Int
  rd : Int
  rs : Int
  rt : Int
  im : Int
deriving DecidableEq
def In.cells (i : In) : List Value := [.int .i64 i.op, .int .i64 i.rd, .int .i64 i.rs, .int .i64 i.rt, .int .i64 i.im]

inductive Kd | z | N | I | RI | R | U | B | J | L | S | A
deriving DecidableEq
def Kd.s : Kd → ByteArray
  | .z => ⟨#[]⟩ | .N => ⟨#[78]⟩ | .I => ⟨#[73]⟩ | .RI => ⟨#[82, 73]⟩ | .R => ⟨#[82]⟩ | .U => ⟨#[85]⟩ | .B => ⟨#[66]⟩ | .J => ⟨#[74]⟩ | .L => ⟨#[76]⟩ | .S => ⟨#[83]⟩ | .A => ⟨#[65]⟩
def kdL : List Kd := [.N, .I, .RI, .RI, .R, .R, .R, .R, .R, .R, .R, .R, .R, .U, .U, .B, .B, .B, .J, .L, .L, .L, .L, .L, .L, .L, .S, .S, .S, .S, .A, .A, .A, .A, .N]
def kd (o : Int) : Kd := if 0 ≤ o then kdL.getD o.toNat .z else .z
/-- Which parts has a kind? -/
def Kd.d : Kd → Bool
  | .I | .J | .RI | .L | .R | .A | .U => true
  | _ => false
def Kd.q : Kd → Bool
  | .RI | .L | .R | .A | .U | .B | .S => true
  | _ => false
def Kd.t : Kd → Bool
  | .R | .A | .B | .S => true
  | _ => false
def Kd.i : Kd → Bool
  | .I | .J | .RI | .L | .B | .S => true
  | _ => false
theorem ret_bool {a b : Bool} (h : a = b) : Ending.returned (.bool a) = .returned (.bool b) := by rw [h]
end Go.Proofs.YtdjaeoeejcmhdaaGreatDoor
set_option linter.unusedVariables false
namespace Go.Proofs.YtdjaeoeejcmhdaaGreatDoor
open Go.RowKit Go.RR










end Go.Proofs.YtdjaeoeejcmhdaaGreatDoor
set_option linter.unusedVariables false
set_option linter.unusedSimpArgs false
namespace Go.Proofs.YtdjaeoeejcmhdaaGreatDoor
open Go.RowKit Go.RR







def Kd.parts : Kd → ByteArray
  | .I | .J => ⟨#[100, 105]⟩
  | .RI | .L => ⟨#[100, 115, 105]⟩
  | .R | .A => ⟨#[100, 115, 116]⟩
  | .U => ⟨#[100, 115]⟩
  | .B | .S => ⟨#[115, 116, 105]⟩
  | _ => ⟨#[]⟩
end Go.Proofs.YtdjaeoeejcmhdaaGreatDoor
set_option linter.unusedVariables false
set_option linter.unusedSimpArgs false
namespace Go.Proofs.YtdjaeoeejcmhdaaGreatDoor
open Go.RowKit Go.RR
/-- What is reckoned of complex numbers. -/
structure Cx where
  add : Nat → Nat → Nat
  sub : Nat → Nat → Nat
  mul : Nat → Nat → Nat
  conj : Nat → Nat
  norm : Nat → Nat
structure Trp where
  cause : Int
  pc : Nat
  addr : Nat
deriving DecidableEq
structure Cor where
  r : Nat → Nat
  pc : Nat
  run : Int
  trap : Trp
structure DidP where
  done : Bool
  inst : In
  pc : Nat
  cause : Int
  access : Int
  addr : Nat
  size : Int
  old : Nat
  new : Nat
deriving DecidableEq
def Cor.set (c : Cor) (n : Int) (v : Nat) : Cor := if 0 ≤ n ∧ n < 16 ∧ n ≠ 0 then { c with r := fun k => if (k : Int) = n then v else c.r k } else c
def DidP.no (pc : Nat) (cause : Int) : DidP := ⟨false, ⟨0, 0, 0, 0, 0⟩, pc, cause, 0, 0, 0, 0, 0⟩
end Go.Proofs.YtdjaeoeejcmhdaaGreatDoor
