/- Homes that talk: posts in a line. No condition. Homes that talk: what two homes answer at first. Plain, no program. No condition. Homes that talk: all posts are taken, one by one, and those that come of them. No condition. -/
import Derived.Test.YtdjaeoeejcmhdaaGreatDoorHx
import Derived.Test.YtdjaeoeejcmhdaaGreatDoorHe
import Derived.Test.YtdjaeoeejcmhdaaGreatDoorHq
set_option linter.unusedVariables false
set_option linter.unusedSimpArgs false
namespace Go.Proofs.YtdjaeoeejcmhdaaGreatDoor
open Go.RowKit Go.RR
theorem runs_len {k : Nat} : ∀ (n : Nat) {G G' : Gs} {l : List Po}, Runs24 k n G l G' → l.length ≤ n
  | _, _, _, [], _ => Nat.zero_le _
  | 0, _, _, _ :: _, h => by cases h
  | n + 1, _, _, _ :: l, h => by
    have := runs_len n h.2
    rw [List.length_append] at this
    rw [List.length_cons]
    omega
theorem Sl.drop7 {w : World} {S : Nat → Prop} {g off cap n : Nat} {c us : List Value} (hc : c.length = 7) (h : Sl w S 7 (.slice (some ⟨g, off, none⟩) (n + 1) cap) (n + 1) (c ++ us)) :
    Sl w S 7 (.slice (some ⟨g, off + 7, none⟩) n (cap - 1)) n us := by
  obtain ⟨h1, p', c', hv, hn, hr⟩ := h
  cases hv
  obtain ⟨g', o', e, hS, hg, hcell⟩ := hr (by omega)
  cases e
  rw [List.length_append, hc] at h1
  refine Sl.of (by omega) (by omega) hS hg fun j u hj => ?_
  have := hcell (7 + j) u (by rw [List.getElem?_append_right (by omega), hc, Nat.add_sub_cancel_left]; exact hj)
  rw [Nat.add_assoc]
  exact this
theorem posC_one (num : Int) (l : List (Po × Value)) (h : ∀ x ∈ l, ∃ dp dn dc, x.2 = .slice dp dn dc) : ∀ u ∈ posC num l, u.oneCell' = true := fun u hu => by
  unfold posC at hu
  rw [List.mem_flatMap] at hu
  obtain ⟨x, hx, hu⟩ := hu
  obtain ⟨dp, dn, dc, e⟩ := h x hx
  unfold poC at hu
  rw [e] at hu
  simp only [List.mem_cons, List.not_mem_nil, or_false] at hu
  rcases hu with rfl | rfl | rfl | rfl | rfl | rfl | rfl <;> rfl
theorem posC_app (num : Int) (l m : List (Po × Value)) : posC num (l ++ m) = posC num l ++ posC num m := by unfold posC; rw [List.flatMap_append]
/-- The first of the posts, and the others. -/
theorem PosAt.head {w : World} {S : Nat → Prop} {v : Value} {num : Int} {x : Po} {q : List Po} (h : PosAt w S v num (x :: q)) :
    ∃ (g off cap : Nat) (dv : Value) (l : List (Po × Value)), v = .slice (some ⟨g, off, none⟩) (l.length + 1) cap ∧ l.map (·.1) = q ∧ g < w.heap.size ∧ S g ∧ (∀ j u, (poC num (x, dv))[j]? = some u → w.cell? ⟨g, off + j, none⟩ = some u) ∧ Sl w S 7 (.slice (some ⟨g, off + 7, none⟩) l.length (cap - 1)) l.length (posC num l) ∧ DatW w S dv x.data ∧ (∀ y ∈ l, DatW w S y.2 y.1.data) ∧ l.length + 1 ≤ cap := by
  obtain ⟨L, h1, h2, h3⟩ := h.ex
  cases L with
  | nil => cases h1
  | cons y l =>
    rw [List.map_cons, List.cons.injEq] at h1
    obtain ⟨rfl, h1⟩ := h1
    obtain ⟨y, dv⟩ := y
    obtain ⟨hl, p', c', hv, hn, hr⟩ := h2
    obtain ⟨g, off, e, hS, hg, hcell⟩ := hr (by show 0 < l.length + 1; omega)
    cases e
    subst hv
    refine ⟨g, off, c', dv, l, rfl, h1, hg, hS, fun j u hj => hcell j u ?_, Sl.drop7 (c := poC num (y, dv)) rfl ⟨hl, _, _, rfl, hn, hr⟩, h3 _ List.mem_cons_self, fun z hz => h3 z (List.mem_cons_of_mem _ hz), hn⟩
    show (poC num (y, dv) ++ posC num l)[j]? = _
    rw [List.getElem?_append_left (List.getElem?_eq_some_iff.1 hj).1]
    exact hj
theorem PosAt.empty {w : World} {S : Nat → Prop} {v : Value} {num : Int} (h : PosAt w S v num []) : ∃ p c, v = .slice p 0 c := by
  obtain ⟨L, h1, h2, h3⟩ := h.ex
  rw [List.map_eq_nil_iff] at h1
  subst h1
  exact h2.form
theorem PosAt.data {w : World} {S : Nat → Prop} {v : Value} {num : Int} {q : List Po} (h : PosAt w S v num q) : ∃ (p : Option Addr) (c : Nat) (l : List (Po × Value)), v = .slice p l.length c ∧ l.map (·.1) = q ∧ Sl w S 7 (.slice p l.length c) l.length (posC num l) ∧ ∀ x ∈ l, DatW w S x.2 x.1.data := by
  obtain ⟨L, h1, h2, h3⟩ := h.ex
  obtain ⟨p, c, rfl⟩ := h2.form
  exact ⟨p, c, L, rfl, h1, h2, h3⟩
end Go.Proofs.YtdjaeoeejcmhdaaGreatDoor
set_option linter.unusedVariables false
set_option linter.unusedSimpArgs false
namespace Go.Proofs.YtdjaeoeejcmhdaaGreatDoor
open Go.RowKit Go.RR
theorem runs_sm {k : Nat} (hk : k ≤ 5) : ∀ (n : Nat) {G G' : Gs} {l : List Po}, Runs24 k n G l G' → SmG k G l → SmG k G' []
  | n, _, _, [], h, s => by cases n <;> (cases h; exact s)
  | 0, _, _, _ :: _, h, _ => by cases h
  | n + 1, _, _, _ :: _, h, s => runs_sm hk n h.2 (step_sm hk s h.1)
theorem updG_updG {α : Type} (f : Nat → α) (i : Nat) (x y : α) : updG (updG f i x) i y = updG f i y := funext fun j => by
  by_cases h : j = i
  · rw [h, updG_at, updG_at]
  · rw [updG_ne _ _ h, updG_ne _ _ h, updG_ne _ _ h]
theorem updG_same {α : Type} (f : Nat → α) (i : Nat) : updG f i (f i) = f := funext fun j => by
  by_cases h : j = i
  · rw [h, updG_at]
  · rw [updG_ne _ _ h]
theorem trimN_eq {c : By} {m : Nat} (h : c m ≠ 0) : ∀ n, m < n → (∀ i, m < i → i < n → c i = 0) → trimN c n = m + 1
  | 0, hm, _ => absurd hm (by omega)
  | n + 1, hm, hz => by
    unfold trimN
    by_cases e : n = m
    · rw [e, if_neg h]
    · rw [if_pos (hz n (by omega) (by omega))]
      exact trimN_eq h n (by omega) fun i h1 h2 => hz i h1 (by omega)
/-- Pages at rest: nothing was about them. -/
def G024 (k : Nat) (p : Nat) : Gs := ⟨fun i => pgNewF i ((p : Int) % k), fun _ _ => 0⟩
/-- The first page at two nodes; the other one is not busy. -/
structure Fst (G : Nat → Gs) (a b : PgS) (c0 c1 : By) : Prop where
  a : (G 0).st 0 = a
  b : (G 0).st 1 = b
  c0 : (G 0).ct 0 = c0
  c1 : (G 0).ct 1 = c1
  z : ((G 1).st 1).busy = false
def fa0 : PgS := ⟨0, true, 0, 0, 0, 0, false, -1⟩
def fa1 : PgS := ⟨2, true, 0, 0, 0, 0, true, -1⟩
def fa2 : PgS := ⟨2, true, 0, 0, 0, 0, false, -1⟩
def fa3 : PgS := ⟨1, true, 0, 2, 0, 0, false, -1⟩
def fb0 : PgS := ⟨0, false, 0, 0, 0, 0, false, -1⟩
def fb1 : PgS := ⟨0, false, 0, 0, 1, 0, false, -1⟩
def fb2 : PgS := ⟨1, false, 0, 0, 0, 0, true, -1⟩
def fc1 : By := putW (fun _ => 0) 8 8 7
theorem fst_start : Fst (G024 2) fa0 fb0 (fun _ => 0) (fun _ => 0) := ⟨rfl, rfl, rfl, rfl, rfl⟩
theorem Fst.turn0 {G : Nat → Gs} {a b : PgS} {c0 c1 : By} (h : Fst G a b c0 c1) {t : Trn} (hl : t.lay = false) (d : Nat → Nat) : Fst (updG G 0 (turnG (G 0) 0 t d).1) t.s b c0 c1 := by
  have e : updG G 0 (turnG (G 0) 0 t d).1 0 = (turnG (G 0) 0 t d).1 := updG_at _ _ _
  refine ⟨by rw [e]; exact updG_at (G 0).st 0 t.s, by rw [e]; exact (updG_ne (G 0).st (i := 0) (j := 1) t.s (by decide)).trans h.b, ?_, ?_, by rw [updG_ne _ _ (by decide)]; exact h.z⟩
  · rw [e]; unfold turnG; rw [hl]; exact h.c0
  · rw [e]; unfold turnG; rw [hl]; exact h.c1
theorem Fst.turn1 {G : Nat → Gs} {a b : PgS} {c0 c1 : By} (h : Fst G a b c0 c1) {t : Trn} (d : Nat → Nat) : Fst (updG G 0 (turnG (G 0) 1 t d).1) a t.s c0 (if t.lay then d else c1) := by
  have e : updG G 0 (turnG (G 0) 1 t d).1 0 = (turnG (G 0) 1 t d).1 := updG_at _ _ _
  refine ⟨by rw [e]; exact (updG_ne (G 0).st (i := 1) (j := 0) t.s (by decide)).trans h.a, by rw [e]; exact updG_at (G 0).st 1 t.s, ?_, ?_, by rw [updG_ne _ _ (by decide)]; exact h.z⟩
  · rw [e]; unfold turnG; dsimp only
    split
    · exact (updG_ne (G 0).ct (i := 1) (j := 0) d (by decide)).trans h.c0
    · exact h.c0
  · rw [e]; unfold turnG; dsimp only
    split
    · exact updG_at _ _ _
    · exact h.c1
theorem Fst.turn_po {G : Nat → Gs} (i : Nat) {t : Trn} (hl : t.lay = false) (d : Nat → Nat) : (turnG (G 0) i t d).2 = t.l.map (poOf ((G 0).ct i)) := by
  unfold turnG; dsimp only; rw [hl]; rfl
theorem fst_want0 {G : Nat → Gs} {b : PgS} {c0 c1 : By} (h : Fst G fa0 b c0 c1) : Fst (updG G 0 (turnG (G 0) 0 (wantF (0 : Nat) ((G 0).st 0) 2) noB).1) fa1 b c0 c1 ∧ (turnG (G 0) 0 (wantF (0 : Nat) ((G 0).st 0) 2) noB).2 = [] := by
  have e : wantF (0 : Nat) ((G 0).st 0) 2 = ⟨fa1, false, []⟩ := by rw [h.a]; rfl
  rw [e]
  exact ⟨h.turn0 rfl noB, rfl⟩
theorem fst_store {G : Nat → Gs} {a b : PgS} {c1 : By} (h : Fst G a b (fun _ => 0) c1) : Fst (updG G 0 ⟨(G 0).st, updG (G 0).ct 0 (putW ((G 0).ct 0) 8 8 7)⟩) a b fc1 c1 := by
  have e : updG G 0 ⟨(G 0).st, updG (G 0).ct 0 (putW ((G 0).ct 0) 8 8 7)⟩ 0 = ⟨(G 0).st, updG (G 0).ct 0 (putW ((G 0).ct 0) 8 8 7)⟩ := updG_at _ _ _
  refine ⟨by rw [e]; exact h.a, by rw [e]; exact h.b, ?_, ?_, by rw [updG_ne _ _ (by decide)]; exact h.z⟩
  · rw [e]
    dsimp only
    rw [updG_at, h.c0]
    rfl
  · rw [e]
    exact (updG_ne (G 0).ct (i := 0) (j := 1) (putW ((G 0).ct 0) 8 8 7) (by decide)).trans h.c1
theorem fst_done {G : Nat → Gs} {b : PgS} {c0 c1 : By} (h : Fst G fa1 b c0 c1) : Fst (updG G 0 (turnG (G 0) 0 (doneF (0 : Nat) ((G 0).st 0)) noB).1) fa2 b c0 c1 ∧ (turnG (G 0) 0 (doneF (0 : Nat) ((G 0).st 0)) noB).2 = [] := by
  have e : doneF (0 : Nat) ((G 0).st 0) = ⟨fa2, false, []⟩ := by rw [h.a]; rfl
  rw [e]
  exact ⟨h.turn0 rfl noB, rfl⟩
theorem fst_want1 {G : Nat → Gs} {a : PgS} {c0 c1 : By} (h : Fst G a fb0 c0 c1) : Fst (updG G 0 (turnG (G 0) 1 (wantF (1 : Nat) ((G 0).st 1) 1) noB).1) a fb1 c0 c1 ∧ (turnG (G 0) 1 (wantF (1 : Nat) ((G 0).st 1) 1) noB).2 = [⟨0, ⟨1, 1, 0, 0⟩, none⟩] := by
  have e : wantF (1 : Nat) ((G 0).st 1) 1 = ⟨fb1, false, [⟨0, 1, 1, 0, 0, false⟩]⟩ := by rw [h.b]; rfl
  rw [e]
  exact ⟨h.turn1 noB, rfl⟩
theorem fst_take0 {G : Nat → Gs} {c0 c1 : By} (h : Fst G fa2 fb1 c0 c1) : Fst (updG G 0 (stepG (G 0) ⟨0, ⟨1, 1, 0, 0⟩, none⟩).1) fa3 fb1 c0 c1 ∧ (stepG (G 0) ⟨0, ⟨1, 1, 0, 0⟩, none⟩).2 = [⟨1, ⟨3, 0, 0, 0⟩, some c0⟩] ∧
    OkP 2 (G 0) ⟨0, ⟨1, 1, 0, 0⟩, none⟩ ∧ SmG 2 (G 0) [⟨0, ⟨1, 1, 0, 0⟩, none⟩] := by
  have e0 : (G 0).st 0 = fa2 := h.a
  have e : takeF 0 ((G 0).st 0) ⟨1, 1, 0, 0⟩ = ⟨fa3, false, [⟨1, 3, 0, 0, 0, true⟩]⟩ := by rw [h.a]; rfl
  refine ⟨?_, ?_, ⟨by decide, by decide, by decide, by decide, by decide, .inl ⟨.inl rfl, ?_⟩⟩, fun i hi => ?_, fun p hp => ?_⟩
  · show Fst (updG G 0 (turnG (G 0) 0 (takeF 0 ((G 0).st 0) ⟨1, 1, 0, 0⟩) noB).1) _ _ _ _
    rw [e]
    exact h.turn0 rfl noB
  · show (turnG (G 0) 0 (takeF 0 ((G 0).st 0) ⟨1, 1, 0, 0⟩) noB).2 = _
    rw [e, Fst.turn_po 0 rfl, h.c0]
    rfl
  · show ((G 0).st 0).busy = false
    rw [h.a]; rfl
  · rcases (by omega : i = 0 ∨ i = 1) with rfl | rfl
    · rw [h.a]; exact ⟨by decide, by decide⟩
    · rw [h.b]; exact ⟨by decide, by decide⟩
  · rw [List.mem_singleton.1 hp]; decide
theorem fst_take1 {G : Nat → Gs} {c0 c1 c : By} (h : Fst G fa3 fb1 c0 c1) : Fst (updG G 0 (stepG (G 0) ⟨1, ⟨3, 0, 0, 0⟩, some c⟩).1) fa3 fb2 c0 c ∧
    OkP 2 (G 0) ⟨1, ⟨3, 0, 0, 0⟩, some c⟩ ∧ SmG 2 (G 0) [⟨1, ⟨3, 0, 0, 0⟩, some c⟩] := by
  have e : takeF 1 ((G 0).st 1) ⟨3, 0, 0, 0⟩ = ⟨fb2, true, []⟩ := by rw [h.b]; rfl
  refine ⟨?_, ⟨⟨by show (0 : Int) ≤ 1; decide, by show (1 : Int) < 2; decide⟩, ⟨by show (0 : Int) ≤ 0; decide, by show (0 : Int) < 2; decide⟩, ⟨by show (0 : Int) ≤ 0; decide, by show (0 : Int) ≤ 255; decide⟩, ⟨by show 0 < 65536; decide, fun _ => rfl⟩, ⟨fun _ => .inl rfl, fun _ => rfl⟩, .inr (.inl ⟨rfl, ?_, ?_⟩)⟩, fun i hi => ?_, fun p hp => ?_⟩
  · show Fst (updG G 0 (turnG (G 0) 1 (takeF 1 ((G 0).st 1) ⟨3, 0, 0, 0⟩) c).1) _ _ _ _
    rw [e]
    exact h.turn1 c
  · show ((G 0).st 1).want = 1
    rw [h.b]; rfl
  · show ((G 0).st 1).owner = false
    rw [h.b]; rfl
  · rcases (by omega : i = 0 ∨ i = 1) with rfl | rfl
    · rw [h.a]; exact ⟨by decide, by decide⟩
    · rw [h.b]; exact ⟨by decide, by decide⟩
  · rw [List.mem_singleton.1 hp]; show 0 < 32; decide
theorem fc1_get : getW fc1 8 8 = 7 := by unfold fc1; rw [getW_put]
theorem fc1_trim : trimN fc1 4096 = 9 := by
  refine trimN_eq (m := 8) (by unfold fc1 putW; decide) 4096 (by decide) fun i h1 h2 => ?_
  unfold fc1 putW
  split
  · rename_i hc
    have : i = 9 ∨ i = 10 ∨ i = 11 ∨ i = 12 ∨ i = 13 ∨ i = 14 ∨ i = 15 := by omega
    rcases this with rfl | rfl | rfl | rfl | rfl | rfl | rfl <;> rfl
  · rfl
end Go.Proofs.YtdjaeoeejcmhdaaGreatDoor
set_option linter.unusedVariables false
set_option linter.unusedSimpArgs false
namespace Go.Proofs.YtdjaeoeejcmhdaaGreatDoor
open Go.RowKit Go.RR
def hlC (k : Nat) (hb : Nat → Nat) : List Value := (List.range k).map fun i => Value.pointer (some ⟨hb i, 0, none⟩)
theorem hlC_at {k i : Nat} {hb : Nat → Nat} (h : i < k) : (hlC k hb)[i]? = some (.pointer (some ⟨hb i, 0, none⟩)) := by
  unfold hlC
  rw [List.getElem?_map, List.getElem?_range h]
  rfl
theorem tz_all {w w' : World} {S : Nat → Prop} (L : Tz24 w) (c : Chg S w w') (h : ¬ S 0) : Tz24 w' := L.chg c h
set_option maxHeartbeats 4000000 in
set_option maxRecDepth 100000 in
theorem through24 {w : World} {k : Nat} {hb spb : Nat → Nat} {F : Nat → Nat → Prop} {G : Nat → Gs} (h : Hs24 w k hb spb F G) (hk : 2 ≤ k) (hk5 : k ≤ 5) {p : Nat} (hp : p < 2) {vh : Value} {SH : Nat → Prop} (hS : Sl w SH 1 vh k (hlC k hb)) (hSH : ∀ b, SH b → ¬ FAll k F b) {vl : Value} {q : List Po} {SP : Nat → Prop} (hq : PosAt w SP vl p q)
    (hSP : ∀ b, SP b → b < w.heap.size ∧ ¬ FAll k F b) {n : Nat} {G' : Gs} (hR : Runs24 k n (G p) q G') (hn : n ≤ 400) (hsm : SmG k (G p) q) (L : Tz24 w) (hDB : ¬ FAll k F 0) :
    Calls Tryz.prog 7 #[vh, vl] w (RetW (.bool true) fun w' => Hs24Post w k hb spb F (updG G p G') w') := by
  obtain ⟨hp0, hc0, hvf⟩ := hS.form
  subst hvf
  have HS := Lib.hid hS
  have HA := Lib.hid (And.intro hSH (And.intro L (And.intro hDB (And.intro hk (And.intro hk5 hp)))))
  have HI := Lib.hid (And.intro h (And.intro hq (And.intro hSP (And.intro hR (And.intro hn hsm)))))
  clear h hS hSH hq hSP hR hn hsm L hDB hk hk5 hp
  obtain ⟨i0, hi0, hz0, hz1, hz2⟩ := info_parts POSTi
  go_enter Tryz.func7, Tryz.ntmps7
  go_wp2_with fail
  go_loopg [5, 1] n (fun m nv lv wr => ∃ (a j : Nat) (Gi : Gs) (q' : List Po) (Fi : Nat → Nat → Prop) (SPi : Nat → Prop), nv = .int .i64 a ∧ m = j ∧ a + j ≤ 400 ∧ Runs24 k j Gi q' G' ∧ SmG k Gi q' ∧ Hs24 wr k hb spb Fi (updG G p Gi) ∧ PosAt wr SPi lv p q' ∧ (∀ b, SPi b → b < wr.heap.size ∧ ¬ FAll k Fi b) ∧ (∀ b, FAll k Fi b → FAll k F b ∨ w.heap.size ≤ b) ∧ Chg (FAll k F) w wr)
  case atStart =>
    obtain ⟨h, hq, hSP, hR, hn, hsm⟩ := HI.out
    exact ⟨0, n, G p, q, F, SP, rfl, rfl, by omega, hR, hsm, by rw [updG_same]; exact h, hq, hSP, fun b hb => .inl hb, Chg.refl _ _⟩
  case round =>
    obtain ⟨a, j, Gi, q', Fi, SPi, rfl, hm, hak, hR, hsm, hHs, hPo, hSPi, hFi, hC⟩ := hrel
    rename World => wr
    have HM := Lib.hid hm
    clear HI hm
    cases q' with
    | nil =>
      obtain ⟨lp, lc, rfl⟩ := hPo.empty
      have HX : Hid (Hs24Post w k hb spb F (updG G p G') wr) := Lib.hid (by
        have e : Gi = G' := by cases j <;> exact hR
        rw [← e]
        exact ⟨Fi, hHs, hFi, hC⟩)
      clear hak hR hsm hHs hPo hSPi hFi hC
      go_wp2_with fail
      go_ret
      exact ⟨rfl, HX.out⟩
    | cons x q' =>
      obtain ⟨j, rfl⟩ : ∃ j', j = j' + 1 := by cases j with
        | zero => cases hR
        | succ j => exact ⟨j, rfl⟩
      obtain ⟨ok, hR⟩ := hR
      obtain ⟨g, off, cap, dv, l, rfl, hlq, hg, hgS, hcell, htl, hdv, hds, hcap⟩ := hPo.head
      obtain ⟨dp, dn, dc, rfl⟩ := hdv.form
      obtain ⟨i, hx⟩ : ∃ i : Nat, x.dst = i := ⟨x.dst.toNat, by have := ok.dst; omega⟩
      have hik : i < k := by have := ok.dst; omega
      have HTk := Lib.hid fun w' (c : Chg NoB wr w') => hs_take (hHs.chg0 c) HA.out.2.2.2.1 HA.out.2.2.2.2.1 HA.out.2.2.2.2.2 (x := x) (l := q') (by rw [updG_at]; exact ok) (by rw [updG_at]; exact hsm) (hdv.chg c fun _ _ => id) (fun b hb => (hSPi b hb).2) ((tz_all HA.out.2.1 hC HA.out.2.2.1).chg0 c) (fun e => by
        rcases hFi _ e with e | e
        · exact HA.out.2.2.1 e
        · have := World.block_lt_of_cell? w _ HA.out.2.1.c0; omega) hx
      rw [updG_at, updG_updG] at HTk
      obtain ⟨dst, ⟨kind, node, hops, set⟩, dat⟩ := x
      dsimp only at hx
      subst hx
      obtain ⟨-, p1, c1, hv1, hkc, hr1⟩ := HS.out
      cases hv1
      obtain ⟨gh, oh, rfl, hSHg, hgh, hcl⟩ := hr1 (by omega)
      have y0 := hC.cell (hcl i _ (hlC_at hik)) (HA.out.1 _ hSHg)
      have yl := Nat.lt_of_lt_of_le hgh hC.size
      have HGH : Hid (¬ FAll k Fi gh) := Lib.hid fun e => (hFi _ e).elim (HA.out.1 _ hSHg) fun e => by omega
      have HLW := Lib.hid hHs.lt
      have x0 := hcell 0 _ rfl
      have x1 := hcell 1 _ rfl
      have x2 := hcell 2 _ rfl
      have x3 := hcell 3 _ rfl
      have x4 := hcell 4 _ rfl
      have x5 := hcell 5 _ rfl
      have x6 := hcell 6 _ rfl
      simp only [Nat.add_zero] at x0
      have t1 : decide ((400 : Int) < a) = false := decide_eq_false (by omega)
      have t2 : decide (400 < a) = false := decide_eq_false (by omega)
      have t3 : decide ((i : Int) < 0) = false := decide_eq_false (by omega)
      have t4 : decide ((k : Int) ≤ i) = false := decide_eq_false (by omega)
      have t5 : decide (k ≤ i) = false := decide_eq_false (by omega)
      obtain ⟨m, hm⟩ : ∃ m, l.length = m := ⟨_, rfl⟩
      rw [hm] at hcap htl ⊢
      have t6 : decide ((0 : Int) < ((m + 1 : Nat) : Int)) = true := decide_eq_true (by omega)
      have t7 : decide ((0 : Int) < (m : Int) + 1) = true := decide_eq_true (by omega)
      have HY := Lib.hid (And.intro ok (And.intro hR (And.intro hsm (And.intro hHs (And.intro hSPi (And.intro hFi hC))))))
      have HL := Lib.hid (And.intro hlq (And.intro htl (And.intro hds (And.intro hm hak))))
      clear ok hR hsm hHs hSPi hFi hC hlq htl hds hm hak hcell hPo hdv hr1
      go_upto_region 7 with fail
      have hPb := Blk.new wr #[.int .i64 i, .int .i64 kind, .int .i64 p, .int .i64 node, .int .i64 hops, .int .u16 set, .slice dp dn dc] 54
      have cP := (Chg.refl NoB wr).alloc (.cells #[.int .i64 i, .int .i64 kind, .int .i64 p, .int .i64 node, .int .i64 hops, .int .u16 set, .slice dp dn dc] 54)
      generalize wr.alloc (.cells #[.int .i64 i, .int .i64 kind, .int .i64 p, .int .i64 node, .int .i64 hops, .int .u16 set, .slice dp dn dc] 54) = wp at *
      obtain ⟨pb, hpb⟩ : ∃ b, wr.heap.size = b := ⟨_, rfl⟩
      have HPB := Lib.hid hpb
      rw [hpb] at hPb
      simp only [hpb]
      have HP := Lib.hid hPb
      have HcP := Lib.hid cP
      have y1 := cP.cell y0 id
      have yl1 := Nat.lt_of_lt_of_le yl cP.size
      have HT2 := Lib.hid (HTk.out _ cP.drew)
      have HD : Blk wp.drew pb #[.int .i64 i, .int .i64 kind, .int .i64 p, .int .i64 node, .int .i64 hops, .int .u16 set, .slice dp dn dc] 54 ∧ wp.drew.cell? ⟨gh, oh + i, none⟩ = some (.pointer (some ⟨hb i, 0, none⟩)) ∧ gh < wp.drew.heap.size := ⟨hPb.drew, y1, yl1⟩
      have HY1 := Lib.hid (And.intro y1 yl1)
      have xm : ∀ w', Blk w' pb #[.int .i64 i, .int .i64 kind, .int .i64 p, .int .i64 node, .int .i64 hops, .int .u16 set, .slice dp dn dc] 54 → ∀ i_1, w'.cell? ⟨pb, i_1, none⟩ = #[.int .i64 i, .int .i64 kind, .int .i64 p, .int .i64 node, .int .i64 hops, .int .u16 set, .slice dp dn dc][i_1]? := fun w' h => h.cell
      have xl : ∀ w', Blk w' pb #[.int .i64 i, .int .i64 kind, .int .i64 p, .int .i64 node, .int .i64 hops, .int .u16 set, .slice dp dn dc] 54 → pb < w'.heap.size := fun w' h => h.lt
      clear x0 x1 x2 x3 x4 x5 x6 y0 yl y1 yl1 hg hPb cP hpb HTk
      refine wp_region_mix 8 [(true, 0), (true, 1), (true, 2), (true, 3), (true, 4), (true, 5), (true, 6), (false, 7)] (fun w' => Blk w' pb #[.int .i64 i, .int .i64 kind, .int .i64 p, .int .i64 node, .int .i64 hops, .int .u16 set, .slice dp dn dc] 54 ∧ w'.cell? ⟨gh, oh + i, none⟩ = some (.pointer (some ⟨hb i, 0, none⟩)) ∧ gh < w'.heap.size) (by kernel_rfl) (by kernel_rfl) (fun _ _ _ _ _ h => h) (HD) ?_
      simp only [pickMix_nil, pickMix_cons, Option.getD_some, List.getElem?_toArray, List.getElem?_cons_zero, List.getElem?_cons_succ, List.cons_append, List.nil_append, List.drop_succ_cons, List.drop_zero]
      iterate 7
       refine wpMix_take rfl ?_
       apply Exists.intro
       refine ⟨fun wS hS => ?_, ?_⟩
       · try dsimp only at hS
         obtain ⟨cS, cY, cG⟩ := hS
         go_simp
         try rfl
       simp only [Act.put, List.setIfInBounds_toArray, List.set_cons_zero, List.set_cons_succ]
      refine wpMix_force rfl (fun K hK => ?_)
      go_simp
      refine HT2.out.mono ?_
      rintro e w3 ⟨r, rfl, F3, SP3, hs3, hP3, hF3, hSP3, hC3⟩
      have hpbF : ¬ FAll k Fi pb := fun e => by have := HLW.out _ e; have := HPB.out; omega
      have D3 : Blk w3 pb #[.int .i64 i, .int .i64 kind, .int .i64 p, .int .i64 node, .int .i64 hops, .int .u16 set, .slice dp dn dc] 54 ∧ w3.cell? ⟨gh, oh + i, none⟩ = some (.pointer (some ⟨hb i, 0, none⟩)) ∧ gh < w3.heap.size := ⟨hC3.blk (HP.out.drew) hpbF, hC3.cell HY1.out.1 HGH.out, Nat.lt_of_lt_of_le HY1.out.2 hC3.size⟩
      have HX3 := Lib.hid (And.intro hs3 (And.intro hP3 (And.intro hF3 (And.intro hSP3 hC3))))
      clear hs3 hP3 hF3 hSP3 hC3 hpbF HD HT2
      refine hK _ _ D3 ?_
      clear hK K D3
      refine wpMix_nil ?_
      obtain ⟨rp, rc, lm, rfl, hlm, hslm, hdm⟩ := HX3.out.2.1.data
      obtain ⟨m2, hm2⟩ : ∃ m2, lm.length = m2 := ⟨_, rfl⟩
      have HM2 := Lib.hid hm2
      rw [hm2] at hslm
      simp only [hm2]
      have HR := Lib.hid (And.intro hlm (And.intro hslm hdm))
      clear hlm hslm hdm hm2
      have c4 := (Chg.refl NoB w3).alloc (.cells #[] 54)
      have oE := Own.fresh (size := 7) w3 [] 54 0 rfl (by decide)
      have HC4 := Lib.hid c4
      have hpl : (posC p l).length = m * 7 := by rw [posC_len, HL.out.2.2.2.1]
      have hSl4 : Sl w3 SPi 7 (.slice (some ⟨g, off + 7, none⟩) m (cap - 1)) m (posC p l) := ((HL.out.2.1.chg0 (HcP.out.drew)).chg HX3.out.2.2.2.2 fun b hb => (HY.out.2.2.2.2.1 b hb).2)
      have one1 : ∀ u ∈ posC p l, u.oneCell' = true := posC_one p l fun y hy => (HL.out.2.2.1 y hy).form
      have one2 : ∀ u ∈ posC p lm, u.oneCell' = true := posC_one p lm fun y hy => (HR.out.2.2 y hy).form
      have hrl := runs_len _ HY.out.2.1
      rw [List.length_append, ← HL.out.1, ← HR.out.1, List.length_map, List.length_map, HL.out.2.2.2.1, HM2.out] at hrl
      have b1 : 0 + m ≤ maxLen := by have := HL.out.2.2.2.2; unfold maxLen; omega
      have b2 : (0 + m) * 72 ≤ 140737488355328 := by have := HL.out.2.2.2.2; omega
      have b3 : 0 + m + m2 ≤ maxLen := by have := HL.out.2.2.2.2; unfold maxLen; omega
      have b4 : (0 + m + m2) * 72 ≤ 140737488355328 := by have := HL.out.2.2.2.2; omega
      have sM := HR.out.2.1
      have HB := Lib.hid (And.intro one2 (And.intro b3 b4))
      clear one2 b3 b4 hpl hrl c4
      by_cases hc1 : cap = 1
      · obtain rfl : m = 0 := by omega
        subst hc1
        have e0 : posC p l = [] := by
          have := HL.out.2.2.2.1
          rw [List.length_eq_zero_iff] at this
          rw [this]; rfl
        have sT : Sl (w3.alloc (.cells #[] 54)) SPi 7 (.slice (some ⟨g, off, none⟩) 0 0) 0 (posC p l) := by rw [e0]; exact (Sl.empty w3 SPi 7 (some ⟨g, off, none⟩) 0).chg0 HC4.out
        clear e0 hSl4
        have HOB := Lib.hid oE.ownBlock
        go_wp2_with (at_builtin; go_must (refine wpList_app rfl _ _ 35 rfl i0 _ 72 Tryz.underlying35 hi0 hz0 hz1 hz2 rfl rfl oE _ 0 _ rfl sT one1 b1 b2 ?_))
        intro v4 w4 o4 g4
        try intro _
        have C4 := HC4.out.grown g4 (fun q hq => .inr (by rw [(HOB.out q hq).1]; exact Nat.le_refl _))
        have sM4 := sM.chg0 C4
        have hsz4 : ∀ q, ((Value.slice (some ⟨w3.heap.size, 0, none⟩) 0 0).ownBlock = some q ∨ q = w3.heap.size + 1) → w3.heap.size ≤ q := fun q hq => hq.elim (fun e => by rw [(HOB.out q e).1]; exact Nat.le_refl _) (fun e => by rw [e]; omega)
        have o4' := o4.mono hsz4
        have HOB4 := Lib.hid o4'.ownBlock
        have HC4' := Lib.hid C4
        clear o4 g4 oE sT one1 b1 b2 C4 hsz4 sM
        have one2 := HB.out.1
        have b3 : 0 + m2 ≤ maxLen := by have := HB.out.2.1; omega
        have b4 : (0 + m2) * 72 ≤ 140737488355328 := by have := HB.out.2.2; omega
        go_wp2_with (at_builtin; go_must (refine wpList_app rfl _ _ 35 rfl i0 _ 72 Tryz.underlying35 hi0 hz0 hz1 hz2 rfl rfl o4' _ m2 _ rfl sM4 one2 b3 b4 ?_))
        intro v5 w5 o5 g5
        try intro _
        have C5 := HC4'.out.grown g5 (fun q hq => .inr (HOB4.out q hq).1)
        have o5' := o5.monoIn (S' := fun b => w3.heap.size ≤ b) (fun q _ hq => hq.elim (fun e => (HOB4.out q e).1) (fun e => by rw [e]; exact HC4'.out.size))
        have hP : PosAt w5 (fun b => b < w5.heap.size ∧ ¬ FAll k F3 b) v5 p (q' ++ (stepG Gi ⟨i, ⟨kind, node, hops, set⟩, dat⟩).2) := by
          have hz := C5.size
          have hz3 := HX3.out.2.2.2.2.size
          have hzp := HcP.out.drew.size
          refine ⟨l ++ lm, by rw [List.map_append, HL.out.1, HR.out.1], ?_, fun x hx => ?_⟩
          · have e : (l ++ lm).length = m2 := by have h1 := HL.out.2.2.2.1; have h2 := HM2.out; rw [List.length_append]; omega
            rw [e, posC_app]
            exact o5'.sl.monoIn fun b h1 h2 => ⟨h1, fun e => by have := HX3.out.1.lt b e; omega⟩
          · rcases List.mem_append.1 hx with hx | hx
            · refine ((((HL.out.2.2.1 x hx).chg HcP.out.drew fun _ _ => id).chg HX3.out.2.2.2.2 fun b hb => (HY.out.2.2.2.2.1 b hb).2).chg C5 fun _ _ => id).mono fun b hb => ?_
              have := HY.out.2.2.2.2.1 b hb
              refine ⟨by omega, fun e => (HX3.out.2.2.1 b e).elim this.2 fun e => ?_⟩
              have hzd := HcP.out.drew.size
              omega
            · refine ((HR.out.2.2 x hx).chg C5 fun _ _ => id).mono fun b hb => ?_
              have := HX3.out.2.2.2.1 b hb
              exact ⟨by omega, this.2.2⟩
        have HF : Hid (∃ (Gi' : Gs) (q2 : List Po) (SPn : Nat → Prop), Runs24 k j Gi' q2 G' ∧ SmG k Gi' q2 ∧ Hs24 w5 k hb spb F3 (updG G p Gi') ∧ PosAt w5 SPn v5 p q2 ∧ (∀ b, SPn b → b < w5.heap.size ∧ ¬ FAll k F3 b) ∧ (∀ b, FAll k F3 b → FAll k F b ∨ w.heap.size ≤ b) ∧ Chg (FAll k F) w w5) := Lib.hid (by
          obtain ⟨ok, hR, hsm, hHs, hSPi, hFi, hC⟩ := HY.out
          refine ⟨_, _, _, hR, step_sm HA.out.2.2.2.2.1 hsm ok, HX3.out.1.chg0 C5, hP, fun b hb => hb, fun b hb => ?_, ?_⟩
          · rcases HX3.out.2.2.1 b hb with e | e
            · exact hFi b e
            · have h1 := HcP.out.drew.size
              have h2 := hC.size
              exact .inr (by omega)
          · refine ((hC.then0 HcP.out.drew).trans HX3.out.2.2.2.2 fun b hb1 hb2 => ?_).then0 C5
            rcases hFi b hb2 with e | e
            · exact e
            · omega)
        clear o4' sM4 one2 b3 b4 o5 g5 C5 o5' hP
        have ew : wrap64 ((a : Int) + 1) = (a : Int) + 1 := IntWalk.wrap64_in _ (by have := HL.out.2.2.2.2; omega)
        have HAK := Lib.hid HL.out.2.2.2.2
        go_wp2_with fail
        go_roundg j
        case rel =>
          obtain ⟨Gi', q2, SPn, z⟩ := HF.out
          exact ⟨a + 1, j, Gi', q2, F3, SPn, by go_num, rfl, by have := HAK.out; omega, z⟩
        case measure => have := HM.out; omega
      · have sT := hSl4.chg0 HC4.out
        clear hSl4
        have HOB := Lib.hid oE.ownBlock
        go_wp2_with (at_builtin; go_must (refine wpList_app rfl _ _ 35 rfl i0 _ 72 Tryz.underlying35 hi0 hz0 hz1 hz2 rfl rfl oE _ m _ rfl sT one1 b1 b2 ?_))
        intro v4 w4 o4 g4
        try intro _
        have C4 := HC4.out.grown g4 (fun q hq => .inr (by rw [(HOB.out q hq).1]; exact Nat.le_refl _))
        have sM4 := sM.chg0 C4
        have hsz4 : ∀ q, ((Value.slice (some ⟨w3.heap.size, 0, none⟩) 0 0).ownBlock = some q ∨ q = w3.heap.size + 1) → w3.heap.size ≤ q := fun q hq => hq.elim (fun e => by rw [(HOB.out q e).1]; exact Nat.le_refl _) (fun e => by rw [e]; omega)
        have o4' := o4.mono hsz4
        have HOB4 := Lib.hid o4'.ownBlock
        have HC4' := Lib.hid C4
        clear o4 g4 oE sT one1 b1 b2 C4 hsz4 sM
        have one2 := HB.out.1
        have b3 : m + m2 ≤ maxLen := by have := HB.out.2.1; omega
        have b4 : (m + m2) * 72 ≤ 140737488355328 := by have := HB.out.2.2; omega
        go_wp2_with (at_builtin; go_must (refine wpList_app rfl _ _ 35 rfl i0 _ 72 Tryz.underlying35 hi0 hz0 hz1 hz2 rfl rfl o4' _ m2 _ rfl sM4 one2 b3 b4 ?_))
        intro v5 w5 o5 g5
        try intro _
        have C5 := HC4'.out.grown g5 (fun q hq => .inr (HOB4.out q hq).1)
        have o5' := o5.monoIn (S' := fun b => w3.heap.size ≤ b) (fun q _ hq => hq.elim (fun e => (HOB4.out q e).1) (fun e => by rw [e]; exact HC4'.out.size))
        have hP : PosAt w5 (fun b => b < w5.heap.size ∧ ¬ FAll k F3 b) v5 p (q' ++ (stepG Gi ⟨i, ⟨kind, node, hops, set⟩, dat⟩).2) := by
          have hz := C5.size
          have hz3 := HX3.out.2.2.2.2.size
          have hzp := HcP.out.drew.size
          refine ⟨l ++ lm, by rw [List.map_append, HL.out.1, HR.out.1], ?_, fun x hx => ?_⟩
          · have e : (l ++ lm).length = m + m2 := by have h1 := HL.out.2.2.2.1; have h2 := HM2.out; rw [List.length_append]; omega
            rw [e, posC_app]
            exact o5'.sl.monoIn fun b h1 h2 => ⟨h1, fun e => by have := HX3.out.1.lt b e; omega⟩
          · rcases List.mem_append.1 hx with hx | hx
            · refine ((((HL.out.2.2.1 x hx).chg HcP.out.drew fun _ _ => id).chg HX3.out.2.2.2.2 fun b hb => (HY.out.2.2.2.2.1 b hb).2).chg C5 fun _ _ => id).mono fun b hb => ?_
              have := HY.out.2.2.2.2.1 b hb
              refine ⟨by omega, fun e => (HX3.out.2.2.1 b e).elim this.2 fun e => ?_⟩
              have hzd := HcP.out.drew.size
              omega
            · refine ((HR.out.2.2 x hx).chg C5 fun _ _ => id).mono fun b hb => ?_
              have := HX3.out.2.2.2.1 b hb
              exact ⟨by omega, this.2.2⟩
        have HF : Hid (∃ (Gi' : Gs) (q2 : List Po) (SPn : Nat → Prop), Runs24 k j Gi' q2 G' ∧ SmG k Gi' q2 ∧ Hs24 w5 k hb spb F3 (updG G p Gi') ∧ PosAt w5 SPn v5 p q2 ∧ (∀ b, SPn b → b < w5.heap.size ∧ ¬ FAll k F3 b) ∧ (∀ b, FAll k F3 b → FAll k F b ∨ w.heap.size ≤ b) ∧ Chg (FAll k F) w w5) := Lib.hid (by
          obtain ⟨ok, hR, hsm, hHs, hSPi, hFi, hC⟩ := HY.out
          refine ⟨_, _, _, hR, step_sm HA.out.2.2.2.2.1 hsm ok, HX3.out.1.chg0 C5, hP, fun b hb => hb, fun b hb => ?_, ?_⟩
          · rcases HX3.out.2.2.1 b hb with e | e
            · exact hFi b e
            · have h1 := HcP.out.drew.size
              have h2 := hC.size
              exact .inr (by omega)
          · refine ((hC.then0 HcP.out.drew).trans HX3.out.2.2.2.2 fun b hb1 hb2 => ?_).then0 C5
            rcases hFi b hb2 with e | e
            · exact e
            · omega)
        clear o4' sM4 one2 b3 b4 o5 g5 C5 o5' hP
        have ew : wrap64 ((a : Int) + 1) = (a : Int) + 1 := IntWalk.wrap64_in _ (by have := HL.out.2.2.2.2; omega)
        have HAK := Lib.hid HL.out.2.2.2.2
        go_wp2_with fail
        go_roundg j
        case rel =>
          obtain ⟨Gi', q2, SPn, z⟩ := HF.out
          exact ⟨a + 1, j, Gi', q2, F3, SPn, by go_num, rfl, by have := HAK.out; omega, z⟩
        case measure => have := HM.out; omega
end Go.Proofs.YtdjaeoeejcmhdaaGreatDoor
