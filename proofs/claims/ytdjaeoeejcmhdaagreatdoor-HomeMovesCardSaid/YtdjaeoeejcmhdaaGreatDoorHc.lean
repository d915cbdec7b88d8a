/- Pages of homes that run: what is told of them. No condition. Homes that run: a page of a number, its state. No condition. Homes that run: a turn that says nothing; a fault of an owner; an instruction done. No condition. Homes that talk: one page at some nodes, messages one by one. Plain, no program. No condition. -/
import Derived.Test.YtdjaeoeejcmhdaaGreatDoorHb
import Derived.Test.YtdjaeoeejcmhdaaGreatDoorGy
import Derived.Test.YtdjaeoeejcmhdaaGreatDoorGa
set_option linter.unusedVariables false
set_option linter.unusedSimpArgs false
namespace Go.Proofs.YtdjaeoeejcmhdaaGreatDoor
open Go.RowKit Go.RR
set_option maxHeartbeats 1000000 in
set_option maxRecDepth 100000 in
theorem pState_w {w : World} {S : Nat → Prop} {pb : Nat} {me number : Int} {s : PgS} (h : PgW w S pb me number s) : Calls Tryz.prog 72 #[.pointer (some ⟨pb, 0, none⟩)] w (RetW (.agg (stCe s)) fun w' => Chg NoB w w') := by
  obtain ⟨right, owner, prob, set, want, wait, held, forget⟩ := s
  obtain ⟨rb, -, hblk, hring⟩ := h.ex
  have hblk : Blk w pb #[.int .i64 me, .int .i64 number, .int .i64 right, .bool owner, .int .i64 prob, .int .u16 set, .int .i64 want, .int .u16 wait, .bool held, .int .i64 forget, .int .i64 0, .pointer (some ⟨rb, 0, none⟩), .slice none 0 0, .bool false] 128 := hblk
  have HR := Lib.hid hring
  have HK := Lib.hid hblk
  have f := hblk.cell
  have fl := hblk.lt
  clear h hblk hring
  go_enter Tryz.func72, Tryz.ntmps72
  go_upto_region 4 with fail
  have hC := ((Chg.refl NoB w).alloc (.cells #[.int .i64 0, .bool false, .int .i64 0, .int .u16 0, .int .i64 0, .int .u16 0, .bool false, .int .i64 0, .int .i64 0] 99)).alloc (.cells #[.int .i64 right, .bool owner, .int .i64 prob, .int .u16 set, .int .i64 want, .int .u16 wait, .bool held, .int .i64 forget, .int .i64 0] 99)
  have hB1 : Blk ((w.alloc (.cells #[.int .i64 0, .bool false, .int .i64 0, .int .u16 0, .int .i64 0, .int .u16 0, .bool false, .int .i64 0, .int .i64 0] 99)).alloc (.cells #[.int .i64 right, .bool owner, .int .i64 prob, .int .u16 set, .int .i64 want, .int .u16 wait, .bool held, .int .i64 forget, .int .i64 0] 99)) w.heap.size #[.int .i64 0, .bool false, .int .i64 0, .int .u16 0, .int .i64 0, .int .u16 0, .bool false, .int .i64 0, .int .i64 0] 99 := (Blk.new w #[.int .i64 0, .bool false, .int .i64 0, .int .u16 0, .int .i64 0, .int .u16 0, .bool false, .int .i64 0, .int .i64 0] 99).alloc _
  have hB2 := Blk.new (w.alloc (.cells #[.int .i64 0, .bool false, .int .i64 0, .int .u16 0, .int .i64 0, .int .u16 0, .bool false, .int .i64 0, .int .i64 0] 99)) #[.int .i64 right, .bool owner, .int .i64 prob, .int .u16 set, .int .i64 want, .int .u16 wait, .bool held, .int .i64 forget, .int .i64 0] 99
  rw [World.size_alloc] at hB2
  have hK2 := hC.blk0 HK.out
  have HR2 := Lib.hid (hC.blk0 HR.out)
  generalize (w.alloc (.cells #[.int .i64 0, .bool false, .int .i64 0, .int .u16 0, .int .i64 0, .int .u16 0, .bool false, .int .i64 0, .int .i64 0] 99)).alloc (.cells #[.int .i64 right, .bool owner, .int .i64 prob, .int .u16 set, .int .i64 want, .int .u16 wait, .bool held, .int .i64 forget, .int .i64 0] 99) = w2 at *
  obtain ⟨b1, hb1⟩ : ∃ b, w.heap.size = b := ⟨_, rfl⟩
  have HW1 : Hid (w.heap.size = b1) := Lib.hid hb1
  rw [hb1] at hB1 hB2
  simp only [hb1]
  have HB1 := Lib.hid hB1
  have HB2 := Lib.hid hB2
  have HC := Lib.hid hC
  have f11 := hK2.cell' (i := 11) (v := .pointer (some ⟨rb, 0, none⟩)) rfl
  have fl2 := hK2.lt
  clear f fl hB1 hB2 hC hK2 hb1 HK HR
  go_wp2_with fail
  refine (ringLen_any HR2.out).mono ?_
  rintro e w3 ⟨rfl, hw3⟩
  subst hw3
  have g := HB2.out.cell
  have gz := HB2.out.frozen
  have gl := HB2.out.lt
  have k := HB1.out.cell
  have kz := HB1.out.frozen
  have kl := HB1.out.lt
  have hz1 : ¬ b1 = b1 + 1 := by omega
  have hz2 : ¬ b1 + 1 = b1 := by omega
  have hw := HW1.out
  have c8 : Chg NoB w (w3.setCell ⟨b1 + 1, 8, none⟩ (.int .i64 0)) := HC.out.setCell (a := ⟨b1 + 1, 8, none⟩) (.inr (by show w.heap.size ≤ b1 + 1; omega)) (.int .i64 0)
  have hB8 : Blk (w3.setCell ⟨b1 + 1, 8, none⟩ (.int .i64 0)) b1 _ 99 := HB1.out.set_ne (a := ⟨b1 + 1, 8, none⟩) (by show b1 ≠ b1 + 1; omega) (.int .i64 0)
  have HSA := store_all hB8 [.int .i64 right, .bool owner, .int .i64 prob, .int .u16 set, .int .i64 want, .int .u16 wait, .bool held, .int .i64 forget, .int .i64 0] rfl
  have HF : Hid (Chg NoB w ((w3.setCell ⟨b1 + 1, 8, none⟩ (.int .i64 0)).setCells b1 0 [.int .i64 right, .bool owner, .int .i64 prob, .int .u16 set, .int .i64 want, .int .u16 wait, .bool held, .int .i64 forget, .int .i64 0])) := Lib.hid (c8.trans HSA.2 fun k hk e => by have e : k = b1 := e; omega)
  obtain ⟨w5, hw5⟩ : ∃ x, (w3.setCell ⟨b1 + 1, 8, none⟩ (.int .i64 0)).setCells b1 0 [.int .i64 right, .bool owner, .int .i64 prob, .int .u16 set, .int .i64 want, .int .u16 wait, .bool held, .int .i64 forget, .int .i64 0] = x := ⟨_, rfl⟩
  rw [hw5] at HF HSA
  replace hw5 : ((((((((((w3.setCell ⟨b1 + 1, 8, none⟩ (.int .i64 0)).setCell ⟨b1, 0, none⟩ (.int .i64 right)).setCell ⟨b1, 1, none⟩ (.bool owner)).setCell ⟨b1, 2, none⟩ (.int .i64 prob)).setCell ⟨b1, 3, none⟩ (.int .u16 set)).setCell ⟨b1, 4, none⟩ (.int .i64 want)).setCell ⟨b1, 5, none⟩ (.int .u16 wait)).setCell ⟨b1, 6, none⟩ (.bool held)).setCell ⟨b1, 7, none⟩ (.int .i64 forget)).setCell ⟨b1, 8, none⟩ (.int .i64 0)) = w5 := hw5
  have q := HSA.1.cell
  have ql := HSA.1.lt
  clear f11 fl2 HSA c8 hB8 hw
  go_wp2_with fail
  exact bodyPost_ret (v := .agg #[.int .i64 right, .bool owner, .int .i64 prob, .int .u16 set, .int .i64 want, .int .u16 wait, .bool held, .int .i64 forget, .int .i64 0]) (by simp [results, Tryz.results72, go_sem, q]) rfl ⟨rfl, HF.out⟩
end Go.Proofs.YtdjaeoeejcmhdaaGreatDoor
set_option linter.unusedVariables false
set_option linter.unusedSimpArgs false
namespace Go.Proofs.YtdjaeoeejcmhdaaGreatDoor
open Go.RowKit Go.RR
theorem hlook2 (ps : List (Int × Nat × PgS)) (n : Int) : mlook (ps.map fun p => (p.1, Value.pointer (some ⟨p.2.1, 0, none⟩))) n = (hLook ps n).map fun x => Value.pointer (some ⟨x.1, 0, none⟩) := by
  unfold hLook
  induction ps with
  | nil => rfl
  | cons p ps ih =>
    unfold mlook at ih ⊢
    rw [List.map_cons, List.find?_cons, List.find?_cons]
    cases p.1 == n with
    | true => rfl
    | false => exact ih
theorem hLook_app {ps : List (Int × Nat × PgS)} {num : Int} (h : hLook ps num = none) (x : Nat × PgS) : hLook (ps ++ [(num, x)]) num = some x := by
  unfold hLook at h ⊢
  rw [Option.map_eq_none_iff] at h
  rw [List.find?_append, h]
  simp
theorem hLook_put {ps : List (Int × Nat × PgS)} {num : Int} {pb : Nat} {s : PgS} (h : hLook ps num = some (pb, s)) (s' : PgS) : hLook (hPut ps pb s') num = some (pb, s') := by
  unfold hLook at h ⊢
  unfold hPut
  rw [Option.map_eq_some_iff] at h
  obtain ⟨p, hp, hps⟩ := h
  rw [List.find?_map]
  have e : ((fun p : Int × Nat × PgS => p.1 == num) ∘ fun p : Int × Nat × PgS => if p.2.1 = pb then (p.1, p.2.1, s') else p) = fun p => p.1 == num := by
    funext q
    show ((if q.2.1 = pb then (q.1, q.2.1, s') else q).1 == num) = _
    split <;> rfl
  rw [e, hp]
  show some ((if p.2.1 = pb then (p.1, p.2.1, s') else p).2) = _
  have : p.2.1 = pb := by rw [hps]
  rw [if_pos this, this]
end Go.Proofs.YtdjaeoeejcmhdaaGreatDoor
set_option linter.unusedVariables false
set_option linter.unusedSimpArgs false
namespace Go.Proofs.YtdjaeoeejcmhdaaGreatDoor
open Go.RowKit Go.RR
theorem SpAt.lt {w : World} {L : Pl} {s : Spc} (h : SpAt w L s) : ∀ k, L.All k → k < w.heap.size := fun k hk => hk.elim (fun e => (h.ap.nm k e).1) (h.ap.bd k)
end Go.Proofs.YtdjaeoeejcmhdaaGreatDoor
set_option linter.unusedVariables false
set_option linter.unusedSimpArgs false
namespace Go.Proofs.YtdjaeoeejcmhdaaGreatDoor
open Go.RowKit Go.RR
/-- A message on its way: to whom, what it says, the page's bytes where they go along. -/
structure Po where
  dst : Int
  m : Mg
  data : Option (Nat → Nat)
/-- One page: its state at each node, its bytes there. -/
structure Gs where
  st : Nat → PgS
  ct : Nat → Nat → Nat
def updG {α : Type} (f : Nat → α) (i : Nat) (x : α) : Nat → α := fun j => if j = i then x else f j
theorem updG_at {α : Type} (f : Nat → α) (i : Nat) (x : α) : updG f i x i = x := if_pos rfl
theorem updG_ne {α : Type} (f : Nat → α) {i j : Nat} (x : α) (h : j ≠ i) : updG f i x j = f j := if_neg h
def poOf (c : Nat → Nat) (l : Lt) : Po := ⟨l.dst, ⟨l.kind, l.node, l.hops, l.set⟩, if l.pg then some c else none⟩
/-- A turn at node i, bytes that came. -/
def turnG (G : Gs) (i : Nat) (t : Trn) (d : Nat → Nat) : Gs × List Po :=
  (⟨updG G.st i t.s, if t.lay then updG G.ct i d else G.ct⟩, t.l.map (poOf (if t.lay then d else G.ct i)))
def noB : Nat → Nat := fun _ => 0
/-- A message is taken. -/
def stepG (G : Gs) (p : Po) : Gs × List Po := turnG G p.dst.toNat (takeF p.dst (G.st p.dst.toNat) p.m) (p.data.getD noB)
/-- A message that a node may take now: it does what it is for. -/
structure OkP (k : Nat) (G : Gs) (p : Po) : Prop where
  dst : 0 ≤ p.dst ∧ p.dst < k
  node : 0 ≤ p.m.node ∧ p.m.node < k
  hops : 0 ≤ p.m.hops ∧ p.m.hops ≤ 255
  set : p.m.set < 65536 ∧ (p.m.kind ≠ 4 → p.m.set = 0)
  data : p.data.isSome = true ↔ p.m.kind = 3 ∨ p.m.kind = 4
  kind : ((p.m.kind = 1 ∨ p.m.kind = 2) ∧ (G.st p.dst.toNat).busy = false) ∨ (p.m.kind = 3 ∧ (G.st p.dst.toNat).want = 1 ∧ (G.st p.dst.toNat).owner = false) ∨ (p.m.kind = 4 ∧ (G.st p.dst.toNat).want = 2 ∧ (G.st p.dst.toNat).owner = false) ∨
    (p.m.kind = 5 ∧ (G.st p.dst.toNat).owner = false ∧ (G.st p.dst.toNat).want = 0 ∧ (G.st p.dst.toNat).held = false) ∨ (p.m.kind = 6 ∧ (G.st p.dst.toNat).want = 2 ∧ (G.st p.dst.toNat).owner = true ∧ nhasF (G.st p.dst.toNat).wait p.m.node = true)
/-- All messages are taken, one by one, and those that come of them, in so many steps at most. -/
def Runs24 (k : Nat) : Nat → Gs → List Po → Gs → Prop
  | _, G, [], G' => G = G'
  | 0, _, _ :: _, _ => False
  | n + 1, G, p :: l, G' => OkP k G p ∧ Runs24 k n (stepG G p).1 (l ++ (stepG G p).2) G'
theorem runs_nil (k n : Nat) (G : Gs) : Runs24 k n G [] G := by cases n <;> rfl
/-! A page between two acts. -/
/-- Who owns the page, who has copies, how each finds the owner; the owner's bytes. -/
structure Rest (k : Nat) (G : Gs) (o : Nat) (dist : Nat → Nat) : Prop where
  ok : o < k
  ow : ∀ i, i < k → (G.st i).owner = decide (i = o)
  fr : ∀ i, i < k → (G.st i).held = false ∧ (G.st i).want = 0 ∧ (G.st i).wait = 0 ∧ (G.st i).forget = -1
  rt : ∀ i, i < k → i ≠ o → (G.st i).set = 0 ∧ ((G.st i).right = 0 ∨ (G.st i).right = 1) ∧ ((G.st i).right = 1 ↔ (G.st o).set.testBit i = true)
  ro : (G.st o).right = 0 ∨ (G.st o).right = 1 ∨ ((G.st o).right = 2 ∧ (G.st o).set = 0)
  se : ∀ i, (G.st o).set.testBit i = true → i < k ∧ i ≠ o
  ct : ∀ i, i < k → 1 ≤ (G.st i).right → G.ct i = G.ct o
  d0 : dist o = 0
  ds : ∀ i, i < k → i ≠ o → 0 ≤ (G.st i).prob ∧ (G.st i).prob < k ∧ dist (G.st i).prob.toNat < dist i
/-- So many messages are taken. -/
def Goes24 (k n : Nat) (G : Gs) (l : List Po) (G' : Gs) (l' : List Po) : Prop := ∀ m G'', Runs24 k m G' l' G'' → Runs24 k (n + m) G l G''
theorem Goes24.refl (k : Nat) (G : Gs) (l : List Po) : Goes24 k 0 G l G l := fun m G'' h => by rw [Nat.zero_add]; exact h
theorem Goes24.trans {k n m : Nat} {G G' G'' : Gs} {l l' l'' : List Po} (h : Goes24 k n G l G' l') (i : Goes24 k m G' l' G'' l'') : Goes24 k (n + m) G l G'' l'' := fun j X hX => by rw [Nat.add_assoc]; exact h _ _ (i _ _ hX)
theorem goes_one {k : Nat} {G G' : Gs} {p : Po} {l q : List Po} (ok : OkP k G p) (h : stepG G p = (G', q)) : Goes24 k 1 G (p :: l) G' (l ++ q) := fun m X hX => by
  rw [Nat.add_comm]
  refine ⟨ok, ?_⟩
  rw [h]
  exact hX
theorem gs_ext {G G' : Gs} (h1 : ∀ i, G.st i = G'.st i) (h2 : ∀ i, G.ct i = G'.ct i) : G = G' := by
  obtain ⟨a, b⟩ := G; obtain ⟨c, d⟩ := G'
  obtain rfl : a = c := funext h1
  obtain rfl : b = d := funext h2
  rfl
/-! Asking on: each that doesn't own the page sends on, and remembers who asked. -/
def askP (acc : Int) (r : Nat) (a : Int) (h : Int) : Po := ⟨a, ⟨acc, r, h, 0⟩, none⟩
def visG (G : Gs) (r : Nat) (V : List Nat) : Gs := ⟨fun i => if i ∈ V then { G.st i with prob := (r : Int) } else G.st i, G.ct⟩
theorem visG_nil (G : Gs) (r : Nat) : visG G r [] = G := by
  obtain ⟨a, b⟩ := G
  simp [visG]
theorem chain24 {k : Nat} {G : Gs} {o r : Nat} {dist : Nat → Nat} (acc : Int) (hacc : acc = 1 ∨ acc = 2) (hrk : r < k) (hfr : ∀ i, i < k → i ≠ r → (G.st i).busy = false) (how : ∀ i, i < k → i ≠ r → (G.st i).owner = decide (i = o)) (hds : ∀ i, i < k → i ≠ o → i ≠ r → 0 ≤ (G.st i).prob ∧ (G.st i).prob < k ∧ dist (G.st i).prob.toNat < dist i) :
    ∀ (d a : Nat) (V : List Nat) (h : Int), 0 ≤ h ∧ h ≤ 255 → dist a = d → a < k → d < dist r → (∀ v ∈ V, v < k ∧ v ≠ o ∧ v ≠ r ∧ d < dist v) → V.Nodup →
      ∃ (n : Nat) (V' : List Nat) (h' : Int), (0 ≤ h' ∧ h' ≤ 255) ∧ Goes24 k n (visG G r V) [askP acc r a h] (visG G r V') [askP acc r o h'] ∧ n ≤ d ∧ V'.Nodup ∧ (∀ v ∈ V', v < k ∧ v ≠ o ∧ v ≠ r) := by
  intro d
  induction d using Nat.strongRecOn with
  | _ d ih =>
    intro a V h hh hd ha hr hV hnd
    by_cases hao : a = o
    · subst hao
      exact ⟨0, V, h, hh, Goes24.refl _ _ _, by omega, hnd, fun v hv => ⟨(hV v hv).1, (hV v hv).2.1, (hV v hv).2.2.1⟩⟩
    · have har : a ≠ r := fun e => by rw [e] at hd; omega
      have haV : a ∉ V := fun e => by have := (hV a e).2.2.2; omega
      obtain ⟨p0, p1, p2⟩ := hds a ha hao har
      obtain ⟨p, hp⟩ : ∃ p : Nat, (G.st a).prob = p := ⟨(G.st a).prob.toNat, by omega⟩
      rw [hp] at p0 p1 p2
      rw [Int.toNat_natCast] at p2
      have hno : (G.st a).owner = false := by rw [how a ha har]; exact decide_eq_false hao
      obtain ⟨n, V', h', hh', g, hn, hnd', hV'⟩ := ih (dist p) (by omega) p (a :: V) (min h 254 + 1) (by omega) rfl (by omega) (by omega) (fun v hv => by
        rcases List.mem_cons.1 hv with rfl | hv
        · exact ⟨ha, hao, har, p2⟩
        · obtain ⟨x1, x2, x3, x4⟩ := hV v hv
          exact ⟨x1, x2, x3, by omega⟩) (List.nodup_cons.2 ⟨haV, hnd⟩)
      refine ⟨1 + n, V', h', hh', Goes24.trans ?_ g, by omega, hnd', hV'⟩
      have ok : OkP k (visG G r V) (askP acc r a h) := by
        have es : (visG G r V).st a = G.st a := if_neg haV
        refine ⟨⟨by show (0 : Int) ≤ a; omega, by show (a : Int) < k; omega⟩, ⟨by show (0 : Int) ≤ r; omega, by show (r : Int) < k; omega⟩, hh, ⟨by show (0 : Nat) < 65536; omega, fun _ => rfl⟩, ⟨fun e => (by cases e), fun e => ?_⟩, .inl ⟨hacc, ?_⟩⟩
        · have e : acc = 3 ∨ acc = 4 := e
          omega
        · show ((visG G r V).st (a : Int).toNat).busy = false
          rw [Int.toNat_natCast, es]
          exact hfr a ha har
      have e : stepG (visG G r V) (askP acc r a h) = (visG G r (a :: V), [askP acc r p (min h 254 + 1)]) := by
        have es : (visG G r V).st a = G.st a := if_neg haV
        unfold stepG askP turnG
        dsimp only
        rw [Int.toNat_natCast, es]
        unfold takeF
        rw [if_pos (by exact hacc)]
        unfold serveF
        rw [if_pos hno]
        dsimp only
        rw [hp]
        refine Prod.ext (gs_ext (fun i => ?_) (fun i => rfl)) rfl
        show updG _ a _ i = _
        unfold visG
        dsimp only
        by_cases hi : i = a
        · subst hi
          rw [updG_at, if_pos List.mem_cons_self]
        · rw [updG_ne _ _ hi]
          by_cases hiV : i ∈ V
          · rw [if_pos hiV, if_pos (List.mem_cons_of_mem _ hiV)]
          · rw [if_neg hiV, if_neg (fun e => (List.mem_cons.1 e).elim hi hiV)]
      exact goes_one (l := []) ok e
/-! Sets of nodes. -/
def Small16 (s : Nat) : Prop := ∀ j, s.testBit j = true → j < 16
theorem nbit_eq {n : Nat} (h : n < 16) : nbitF (n : Int) = 2 ^ n := by
  unfold nbitF
  rw [if_pos ⟨by omega, by omega⟩, Int.toNat_natCast]
theorem nadd_test {s n : Nat} (h : n < 16) (j : Nat) : (naddF s n).testBit j = (s.testBit j || decide (n = j)) := by
  unfold naddF
  rw [nbit_eq h, Nat.testBit_or, Nat.testBit_two_pow]
theorem ndrop_test {s n : Nat} (hs : Small16 s) (h : n < 16) (j : Nat) : (ndropF s n).testBit j = (s.testBit j && !decide (n = j)) := by
  unfold ndropF
  rw [nbit_eq h, Nat.testBit_and, Nat.testBit_xor, Nat.testBit_two_pow, show (65535 : Nat) = 2 ^ 16 - 1 from rfl, Nat.testBit_two_pow_sub_one]
  cases hj : s.testBit j with
  | false => rfl
  | true =>
    have := hs j hj
    rw [decide_eq_true this]
    simp
theorem set_ext {s t : Nat} (h : ∀ j, s.testBit j = t.testBit j) : s = t := Nat.eq_of_testBit_eq h
theorem set_zero {s : Nat} (h : ∀ j, s.testBit j = false) : s = 0 := set_ext fun j => by rw [h, Nat.zero_testBit]
theorem nhas_test {s n : Nat} (h : n < 16) : nhasF s n = s.testBit n := by
  unfold nhasF
  rw [nbit_eq h]
  cases e : s.testBit n with
  | false =>
    rw [decide_eq_false]
    intro hne
    refine hne (set_zero fun j => ?_)
    rw [Nat.testBit_and, Nat.testBit_two_pow]
    by_cases hj : n = j
    · rw [← hj, e]; rfl
    · rw [decide_eq_false hj, Bool.and_false]
  | true =>
    rw [decide_eq_true]
    intro h0
    have h1 : (s &&& 2 ^ n).testBit n = true := by rw [Nat.testBit_and, Nat.testBit_two_pow, e]; simp
    rw [h0, Nat.zero_testBit] at h1
    cases h1
def memb (s : Nat) : List Nat := (List.range 16).filter fun i => s.testBit i
theorem memb_iff {s j : Nat} (hs : Small16 s) : j ∈ memb s ↔ s.testBit j = true := by
  unfold memb
  rw [List.mem_filter, List.mem_range]
  exact ⟨fun h => h.2, fun h => ⟨hs j h, h⟩⟩
theorem memb_nodup (s : Nat) : (memb s).Nodup := List.nodup_range.filter _
theorem memb_len (s : Nat) : (memb s).length ≤ 16 := Nat.le_trans (List.length_filter_le ..) (by simp)
theorem nlist_memb (s : Nat) : nlistF s = (memb s).map fun i : Nat => (i : Int) := rfl
/-! A new owner makes all copies forgotten. -/
def fgP (r : Nat) (i : Nat) : Po := ⟨(i : Int), ⟨5, r, 0, 0⟩, none⟩
def fdP (r : Nat) (i : Nat) : Po := ⟨(r : Int), ⟨6, i, 0, 0⟩, none⟩
def dropG (G : Gs) (r : Nat) (V : List Nat) : Gs := ⟨fun i => if i ∈ V then { G.st i with right := 0, prob := (r : Int) } else G.st i, G.ct⟩
theorem forgets24 {k : Nat} {G : Gs} {r : Nat} (hrk : r < k) (L : List Nat) : ∀ (V : List Nat) (Q : List Po), (V ++ L).Nodup → (∀ i ∈ L, i < k ∧ (G.st i).owner = false ∧ (G.st i).want = 0 ∧ (G.st i).held = false) → Goes24 k L.length (dropG G r V) (L.map (fgP r) ++ Q) (dropG G r (V ++ L)) (Q ++ L.map (fdP r)) := by
  induction L with
  | nil => intro V Q _ _; rw [List.append_nil]; simpa using Goes24.refl _ _ _
  | cons i L ih =>
    intro V Q hnd hL
    obtain ⟨hik, h1, h2, h3⟩ := hL i List.mem_cons_self
    have hiV : i ∉ V := fun e => by
      rw [List.nodup_append] at hnd
      exact hnd.2.2 i e i List.mem_cons_self rfl
    have es : (dropG G r V).st i = G.st i := if_neg hiV
    have e : stepG (dropG G r V) (fgP r i) = (dropG G r (V ++ [i]), [fdP r i]) := by
      unfold stepG fgP turnG
      dsimp only
      rw [Int.toNat_natCast, es]
      unfold takeF
      rw [if_neg (by simp), if_neg (by simp), if_neg (by simp), if_pos rfl, if_neg (by rw [h1]; simp), if_neg (by rw [h2, h3]; simp)]
      unfold dropPF
      rw [if_pos h2]
      refine Prod.ext (gs_ext (fun j => ?_) (fun j => rfl)) rfl
      show updG _ i _ j = _
      unfold dropG
      dsimp only
      by_cases hj : j = i
      · subst hj
        rw [updG_at, if_pos (by simp)]
      · rw [updG_ne _ _ hj]
        by_cases hjV : j ∈ V
        · rw [if_pos hjV, if_pos (by simp [hjV])]
        · rw [if_neg hjV, if_neg (by simp [hjV, hj])]
    have g := ih (V ++ [i]) (Q ++ [fdP r i]) (by rw [List.append_assoc]; exact hnd) fun j hj => hL j (List.mem_cons_of_mem _ hj)
    rw [List.append_assoc, List.append_assoc] at g
    have ok : OkP k (dropG G r V) (fgP r i) := by
      refine ⟨⟨by show (0 : Int) ≤ i; omega, by show (i : Int) < k; omega⟩, ⟨by show (0 : Int) ≤ r; omega, by show (r : Int) < k; omega⟩, ⟨by show (0 : Int) ≤ 0; omega, by show (0 : Int) ≤ 255; omega⟩, ⟨by show (0 : Nat) < 65536; omega, fun _ => rfl⟩, ⟨fun e => (by cases e), fun e => ?_⟩, .inr (.inr (.inr (.inl ⟨rfl, ?_⟩)))⟩
      · have e : (5 : Int) = 3 ∨ (5 : Int) = 4 := e
        omega
      · show ((dropG G r V).st (i : Int).toNat).owner = false ∧ ((dropG G r V).st (i : Int).toNat).want = 0 ∧ ((dropG G r V).st (i : Int).toNat).held = false
        rw [Int.toNat_natCast, es]
        exact ⟨h1, h2, h3⟩
    have g1 := goes_one (l := L.map (fgP r) ++ Q) ok e
    rw [List.append_assoc] at g1
    have := g1.trans g
    rw [List.length_cons, Nat.add_comm]
    exact this
def waitG (G : Gs) (r : Nat) (s : PgS) : Gs := ⟨updG G.st r s, G.ct⟩
theorem waitG_waitG (G : Gs) (r : Nat) (s t : PgS) : waitG (waitG G r s) r t = waitG G r t := gs_ext (fun i => by
  show updG (updG G.st r s) r t i = updG G.st r t i
  by_cases h : i = r
  · rw [h, updG_at, updG_at]
  · rw [updG_ne _ _ h, updG_ne _ _ h, updG_ne _ _ h]) fun i => rfl
/-- The last of those that were waited for has told. -/
theorem forgots24 {k : Nat} (hk16 : k ≤ 16) {G : Gs} {r : Nat} {s : PgS} (hrk : r < k) (ho : s.owner = true) (hw : s.want = 2) (L : List Nat) : ∀ wt st : Nat, L ≠ [] → L.Nodup → (∀ i ∈ L, i < k) → Small16 wt → Small16 st → (∀ j, wt.testBit j = true ↔ j ∈ L) → (∀ j, st.testBit j = true ↔ j ∈ L) →
    Goes24 k L.length (waitG G r { s with wait := wt, set := st }) (L.map (fdP r)) (waitG G r (holdF { s with wait := 0, set := 0 } 2)) [] := by
  induction L with
  | nil => intro _ _ h; exact absurd rfl h
  | cons i L ih =>
    intro wt st _ hnd hLk h1 h2 h3 h4
    have hik := hLk i List.mem_cons_self
    have hi16 := h1 i ((h3 i).2 List.mem_cons_self)
    have hiL := (List.nodup_cons.1 hnd).1
    have w3 : ∀ j, (ndropF wt i).testBit j = true ↔ j ∈ L := fun j => by
      rw [ndrop_test h1 hi16]
      simp only [Bool.and_eq_true, Bool.not_eq_true', decide_eq_false_iff_not, h3, List.mem_cons]
      constructor
      · rintro ⟨e | e, h⟩
        · exact absurd e.symm h
        · exact e
      · exact fun e => ⟨.inr e, fun e2 => hiL (e2 ▸ e)⟩
    have w4 : ∀ j, (ndropF st i).testBit j = true ↔ j ∈ L := fun j => by
      rw [ndrop_test h2 hi16]
      simp only [Bool.and_eq_true, Bool.not_eq_true', decide_eq_false_iff_not, h4, List.mem_cons]
      constructor
      · rintro ⟨e | e, h⟩
        · exact absurd e.symm h
        · exact e
      · exact fun e => ⟨.inr e, fun e2 => hiL (e2 ▸ e)⟩
    have hhas : nhasF wt i = true := by rw [nhas_test hi16]; exact (h3 i).2 List.mem_cons_self
    have es : (waitG G r { s with wait := wt, set := st }).st r = { s with wait := wt, set := st } := updG_at _ _ _
    have ok : OkP k (waitG G r { s with wait := wt, set := st }) (fdP r i) := by
      refine ⟨⟨by show (0 : Int) ≤ r; omega, by show (r : Int) < k; omega⟩, ⟨by show (0 : Int) ≤ i; omega, by show (i : Int) < k; omega⟩, ⟨by show (0 : Int) ≤ 0; omega, by show (0 : Int) ≤ 255; omega⟩, ⟨by show (0 : Nat) < 65536; omega, fun _ => rfl⟩, ⟨fun e => (by cases e), fun e => ?_⟩, .inr (.inr (.inr (.inr ⟨rfl, ?_⟩)))⟩
      · have e : (6 : Int) = 3 ∨ (6 : Int) = 4 := e
        omega
      · show ((waitG G r { s with wait := wt, set := st }).st (r : Int).toNat).want = 2 ∧ ((waitG G r { s with wait := wt, set := st }).st (r : Int).toNat).owner = true ∧ nhasF ((waitG G r { s with wait := wt, set := st }).st (r : Int).toNat).wait (i : Int) = true
        rw [Int.toNat_natCast, es]
        exact ⟨hw, ho, hhas⟩
    by_cases hL : L = []
    · subst hL
      have z3 : ndropF wt i = 0 := set_zero fun j => by
        cases hj : (ndropF wt i).testBit j with
        | false => rfl
        | true => exact absurd ((w3 j).1 hj) List.not_mem_nil
      have z4 : ndropF st i = 0 := set_zero fun j => by
        cases hj : (ndropF st i).testBit j with
        | false => rfl
        | true => exact absurd ((w4 j).1 hj) List.not_mem_nil
      have e : stepG (waitG G r { s with wait := wt, set := st }) (fdP r i) = (waitG G r (holdF { s with wait := 0, set := 0 } 2), []) := by
        unfold stepG fdP turnG
        dsimp only
        rw [Int.toNat_natCast, es]
        unfold takeF
        rw [if_neg (by simp), if_neg (by simp), if_neg (by simp), if_neg (by simp), if_pos rfl, if_neg (by rw [hw, ho, hhas]; simp), if_pos z3, z4]
        exact Prod.ext (waitG_waitG G r _ _) rfl
      exact goes_one (l := []) ok e
    · have e : stepG (waitG G r { s with wait := wt, set := st }) (fdP r i) = (waitG G r { s with wait := ndropF wt i, set := ndropF st i }, []) := by
        have hne : ndropF wt i ≠ 0 := fun e => by
          obtain ⟨j, hj⟩ := List.exists_mem_of_ne_nil L hL
          have := (w3 j).2 hj
          rw [e, Nat.zero_testBit] at this
          cases this
        unfold stepG fdP turnG
        dsimp only
        rw [Int.toNat_natCast, es]
        unfold takeF
        rw [if_neg (by simp), if_neg (by simp), if_neg (by simp), if_neg (by simp), if_pos rfl, if_neg (by rw [hw, ho, hhas]; simp), if_neg hne]
        exact Prod.ext (waitG_waitG G r _ _) rfl
      have g := ih (ndropF wt i) (ndropF st i) hL (List.nodup_cons.1 hnd).2 (fun j hj => hLk j (List.mem_cons_of_mem _ hj)) (fun j hj => h1 j ((h3 j).2 (List.mem_cons_of_mem _ ((w3 j).1 hj)))) (fun j hj => h2 j ((h4 j).2 (List.mem_cons_of_mem _ ((w4 j).1 hj)))) w3 w4
      have g1 := goes_one (l := L.map (fdP r)) ok e
      rw [List.append_nil] at g1
      have := g1.trans g
      rw [List.length_cons, Nat.add_comm]
      exact this
end Go.Proofs.YtdjaeoeejcmhdaaGreatDoor
