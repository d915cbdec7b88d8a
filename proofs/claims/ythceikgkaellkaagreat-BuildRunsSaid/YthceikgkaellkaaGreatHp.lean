/- Pieces of programs: alike ones, joined ones. No condition. Pieces of programs: joined ones. No condition. Pieces of programs: joined ones by the reference; locks. No condition. Pieces of programs: constants. No condition. -/
import Derived.Test.YthceikgkaellkaaGreatHo
import Derived.Laws.Bits64b
import Derived.Laws.BitsLemmas
set_option linter.unusedVariables false
namespace Go.Proofs.YthceikgkaellkaaGreat
open Go.RowKit Go.RR




theorem oper_zeros {P : Program} {ops : Array Oper} {rest : List Oper} {o : Oper} {a : Act} {w : World} {Q : Exit → Act → World → Prop} (hgd : o.guard = none) (s x : Operand) (t tn E : TypeId)
    (ho : o.op = .call { callee := .builtin .append, args := #[s, x], argTypes := #[t, tn] }) (i : TypeInfo) (z : Value) (kq kn : IntKind) (ht : P.underlying t = some (.slice E)) (htn : P.underlying tn = some (.int kn)) (hi : P.info? E = some i) (hz : i.zero = some z)
    (hsz : z.cells.size = i.size) (hs : a.eval s = .slice none 0 0) (k : Nat) (hx : a.eval x = .int kq k) (h0 : 0 < k) (hs0 : 0 < i.size) (h63 : k ≤ maxLen) (h48 : k * i.bytes ≤ 140737488355328)
    (h : ∀ c w', Own w' (fun q => w.heap.size ≤ q) E i.size (.slice (some ⟨w.heap.size, 0, none⟩) 0 c) 0 [] → Chg NoB w w' → k ≤ c → wpList P ops Q rest (a.put o.dst (.slice (some ⟨w.heap.size, 0, none⟩) k c)) w') : wpList P ops Q (o :: rest) a w := by
  refine wpList_plain hgd fun K hK => ?_
  have hr := Lib.run_append_grow_zeros (P := P) w t tn o.type E i z kq kn ht htn hi hz none 0 0 [] (by simp [Builtin.firstCells]) k h0 hs0 (by omega) (by unfold maxLen at h63; omega) (by omega) (growslice_fits (by omega) (by rw [Nat.zero_add]; exact h48))
  unfold Oper.wp execOp
  simp only [ho, resolve, invoke, builtin, Sem.run_bind, Sem.run_pure, Result.andThen_ok, List.map_toArray, List.map_cons, List.map_nil, hs, hx, hr]
  have hge := grownCap_ge w (0 + k) 0 E
  refine hK _ _ (by
    have := h (grownCap w (0 + k) 0 E) _ ?_ (((Chg.refl NoB w).drew).alloc (.cells ((#[] : Array Value) ++ Builtin.zeroCells z.cells k ++ Builtin.zeroCells z.cells (grownCap w (0 + k) 0 E - (0 + k))) E)) (by omega)
    · simpa using this
    · refine ⟨by simp, .inr ⟨w.heap.size, 0, _, _, rfl, Nat.le_refl _, heap_alloc_new w.drew _, Nat.zero_le _, grownCap_le_maxLen w (0 + k) 0 E (by omega), ?_, fun j u hu => by simp at hu⟩⟩
      simp only [Array.size_append, size_zeroCells, hsz]
      simp
      rw [← Nat.add_mul]
      exact Nat.mul_le_mul_right _ (by omega))
end Go.Proofs.YthceikgkaellkaaGreat
set_option linter.unusedVariables false
namespace Go.Proofs.YthceikgkaellkaaGreat
open Go.RowKit Go.RR



set_option maxRecDepth 100000 in
theorem grow_any (k : Nat) (hk : k ≤ 100000) (w : World) : Calls Tryz.prog 113 #[.slice none 0 0, .int .i64 k] w (RetSl fun v w' => Own w' (fun q => w.heap.size ≤ q) 40 5 v 0 [] ∧ Chg NoB w w') := by
  obtain ⟨i0, hi0, hz0, hz1, hz2⟩ := info_parts INinfo
  by_cases h0 : k = 0
  · subst h0
    clear hi0 hz0 hz1 hz2
    go_enter Tryz.func113, Tryz.ntmps113
    go_wp2
    go_ret
    exact ⟨_, rfl, Own.nil _ _ _ _, Chg.refl _ _⟩
  · have t0 : decide ((k : Int) < 0) = false := by simp
    have t1 : decide (0 < (k : Int)) = true := by simp; omega
    have t2 : decide (0 < k) = true := by simp; omega
    have q1 : 0 < k := by omega
    have q2 : 0 < i0.size := by omega
    have q3 : k ≤ maxLen := by unfold maxLen; omega
    have q4 : k * i0.bytes ≤ 140737488355328 := by rw [hz2]; omega
    have q5 : (Value.agg #[.int .i64 0, .int .i64 0, .int .i64 0, .int .i64 0, .int .i64 0]).cells.size = i0.size := by rw [hz1]; rfl
    go_enter Tryz.func113, Tryz.ntmps113
    go_wp2_with (at_builtin; go_must (refine oper_zeros rfl _ _ 53 3 40 rfl i0 _ .i64 .i64 Tryz.underlying53 Tryz.underlying3 hi0 hz0 q5 rfl k rfl q1 q2 q3 q4 ?_))
    intro c w1 o1 C1 hc
    have HO := Lib.hid o1
    have HC := Lib.hid C1
    clear o1 C1 hi0 hz0 hz1 hz2 q5 q4 q3 q2 h0
    go_wp2
    go_ret
    exact ⟨_, rfl, HO.out, HC.out⟩

/-- Slices of instructions, one behind another. -/
def PRows (w : World) (vs : List Value) (ls : List (List In)) : Prop := vs.length = ls.length ∧ ∀ (n : Nat) (x : Value) (l : List In), vs[n]? = some x → ls[n]? = some l → ∃ S : Nat → Prop, Sl w S 5 x l.length (icells l)
theorem PRows.chg0 {w w' : World} {vs : List Value} {ls : List (List In)} (h : PRows w vs ls) (c : Chg NoB w w') : PRows w' vs ls :=
  ⟨h.1, fun n x l h1 h2 => by obtain ⟨S, hS⟩ := h.2 n x l h1 h2; exact ⟨S, hS.chg0 c⟩⟩
theorem PRows.nil (w : World) : PRows w [] [] := ⟨rfl, fun n x l h => by simp at h⟩
theorem PRows.cons {w : World} {v : Value} {l : List In} {vs : List Value} {ls : List (List In)} {S : Nat → Prop} (h : Sl w S 5 v l.length (icells l)) (r : PRows w vs ls) : PRows w (v :: vs) (l :: ls) :=
  ⟨by simp [r.1], fun n x m h1 h2 => by
    cases n with
    | zero => simp at h1 h2; subst h1 h2; exact ⟨S, h⟩
    | succ n => exact r.2 n x m (by simpa using h1) (by simpa using h2)⟩
theorem flat_next {ls : List (List In)} {n : Nat} {l : List In} (h : ls[n]? = some l) : (ls.take (n + 1)).flatten = (ls.take n).flatten ++ l := by
  rw [List.take_add_one, h, List.flatten_append]; simp
theorem flat_le (ls : List (List In)) (n : Nat) : (ls.take n).flatten.length ≤ ls.flatten.length := by
  conv => rhs; rw [← List.take_append_drop n ls, List.flatten_append, List.length_append]
  omega


set_option maxHeartbeats 1000000 in
set_option maxRecDepth 100000 in
theorem concat_any (S : Nat → Prop) (v : Value) (vs : List Value) (ls : List (List In)) (w : World) (hs : Sl w S 1 v vs.length vs) (hr : PRows w vs ls) (hn : vs.length ≤ 1000) (hl : ls.flatten.length ≤ 100000) :
    Calls Tryz.prog 71 #[v] w (RetSl fun v' w' => IsNew w w' v' ls.flatten) := by
  obtain ⟨i0, hi0, hz0, hz1, hz2⟩ := info_parts INinfo
  obtain ⟨p, cap, rfl⟩ := hs.form
  have HS := Lib.hid hs
  have HR := Lib.hid hr
  have HI := Lib.hid (And.intro hi0 (And.intro hz0 (And.intro hz1 hz2)))
  clear hs hr hi0 hz0 hz1 hz2
  go_enter Tryz.func71, Tryz.ntmps71
  go_wp2_with fail
  go_loopg [3, 11] vs.length (fun m sz ix wr => ∃ n : Nat, n + m = vs.length ∧ ix = .int .i64 n ∧ sz = .int .i64 ((ls.take n).flatten.length : Nat) ∧ wr = w)
  case atStart => exact ⟨0, by omega, rfl, by simp, rfl⟩
  case round =>
    obtain ⟨n, hn, rfl, rfl, rfl⟩ := hrel
    have HN := Lib.hid hn
    have hnl : n ≤ vs.length := by omega
    clear hn
    have hC : Chg NoB wr wr := Chg.refl _ _
    by_cases hlt : n < vs.length
    ·
      -- the slice at place n of the rows, read in world wr: x = .slice p l.length cap
      obtain ⟨x, hx⟩ : ∃ x, vs[n]? = some x := ⟨vs[n]'(by omega), by simp [show n < vs.length by omega]⟩
      obtain ⟨l, hl⟩ : ∃ l, ls[n]? = some l := ⟨ls[n]'(by have := HR.out.1; omega), by simp [show n < ls.length by have := HR.out.1; omega]⟩
      obtain ⟨S', hS'⟩ := (HR.out.chg0 hC).2 n x l hx hl
      obtain ⟨p', cap', rfl⟩ := hS'.form
      obtain ⟨-, pz, cz, e, hcz, hsz⟩ := HS.out.chg0 hC
      cases e
      obtain ⟨g, of, rfl, -, hg, hcell⟩ := hsz (by omega)
      have x0 := hcell n _ hx
      have hfn := flat_next hl
      have hle := flat_le ls (n + 1)
      rw [hfn, List.length_append] at hle
      have n0 : (0 : Int) ≤ n := by omega
      have t0 : decide (((ls.take n).flatten.length : Int) + (l.length : Int) < 0) = false := by simp; omega
      have HX := Lib.hid hfn
      clear hx hl hcell hsz hS' hC hfn
      generalize hfl : (ls.take n).flatten.length = fl at *
      have HFL := Lib.hid hfl
      clear hfl
      go_wp2_with fail
      go_roundg (vs.length - (n + 1))
      case measure => have := HN.out; omega
      case rel => exact ⟨n + 1, by have := HN.out; omega, by go_num, by rw [HX.out, List.length_append, HFL.out]; go_num, rfl⟩
    · obtain rfl : n = vs.length := by omega
      have hfa : (ls.take vs.length).flatten = ls.flatten := by rw [HR.out.1, List.take_length]
      rw [hfa]
      have HFA := Lib.hid hfa
      clear hfa hC
      generalize hfl : ls.flatten.length = fl at *
      have HFL := Lib.hid hfl
      clear hfl
      go_wp2_with fail
      refine (grow_any fl hl _).mono ?_
      rintro e w1 ⟨v1, rfl, o1, C1⟩
      have HO := Lib.hid o1
      have HC := Lib.hid C1
      clear o1 C1
      obtain ⟨wo, hwo⟩ : ∃ wo, wo = wr := ⟨_, rfl⟩
      subst hwo
      go_wp2_with fail
      go_loopg [6, 27] vs.length (fun m nv ix wr => ∃ n : Nat, n + m = vs.length ∧ ix = .int .i64 n ∧ IsNew wo wr nv (ls.take n).flatten)
      case atStart => exact ⟨0, by omega, rfl, HO.out, HC.out⟩
      case round =>
        obtain ⟨n, hn, rfl, hI⟩ := hrel
        have HN := Lib.hid hn
        have hnl : n ≤ vs.length := by omega
        clear hn
        have hC := hI.2
        by_cases hlt : n < vs.length
        ·
          -- the slice at place n of the rows, read in world wr: x = .slice p l.length cap
          obtain ⟨x, hx⟩ : ∃ x, vs[n]? = some x := ⟨vs[n]'(by omega), by simp [show n < vs.length by omega]⟩
          obtain ⟨l, hl⟩ : ∃ l, ls[n]? = some l := ⟨ls[n]'(by have := HR.out.1; omega), by simp [show n < ls.length by have := HR.out.1; omega]⟩
          obtain ⟨S', hS'⟩ := (HR.out.chg0 hC).2 n x l hx hl
          obtain ⟨p', cap', rfl⟩ := hS'.form
          obtain ⟨-, pz, cz, e, hcz, hsz⟩ := HS.out.chg0 hC
          cases e
          obtain ⟨g, of, rfl, -, hg, hcell⟩ := hsz (by omega)
          have x0 := hcell n _ hx
          have hfn := flat_next hl
          have hle := flat_le ls (n + 1)
          rw [hfn, List.length_append] at hle
          have n0 : (0 : Int) ≤ n := by omega
          generalize hF : (ls.take n).flatten = F at *
          clear hF
          have HX := Lib.hid hfn
          clear hfn
          have oA := hI.1
          obtain ⟨pa, ca, e⟩ := oA.form
          subst e
          have one1 := icells_one l
          have b1 : F.length + l.length ≤ maxLen := by have := HFL.out; unfold maxLen; omega
          have b2 : (F.length + l.length) * 40 ≤ 140737488355328 := by have := HFL.out; omega
          have hob := oA.ownBlock
          obtain ⟨hi0, hz0, hz1, hz2⟩ := HI.out
          clear hI hsz hcell hx hl
          go_wp2_with (at_builtin; go_must (refine wpList_app rfl _ _ 53 rfl i0 _ 40 Tryz.underlying53 hi0 hz0 hz1 hz2 rfl rfl oA _ l.length _ rfl hS' one1 b1 b2 ?_))
          intro v2 w2 o2 g2 _
          have C2 := hC.grown g2 (fun k hk => .inr (hob k hk).1)
          have O2 : Own w2 (fun k => wo.heap.size ≤ k) 40 5 v2 (F.length + l.length) (icells F ++ icells l) := o2.mono fun k hk => hk.elim (fun h => (hob k h).1) (fun h => by have := hC.size; omega)
          rw [← icells_app, ← List.length_append] at O2
          have HO2 := Lib.hid O2
          have HC2 := Lib.hid C2
          clear oA hS' one1 b1 b2 hob hC o2 g2 C2 O2 hle hi0 hz0 hz1 hz2 x0
          go_wp2_with fail
          go_roundg (vs.length - (n + 1))
          case measure => have := HN.out; omega
          case rel => exact ⟨n + 1, by have := HN.out; omega, by go_num, by rw [HX.out]; exact ⟨HO2.out, HC2.out⟩⟩
        · obtain rfl : n = vs.length := by omega
          rw [HFA.out] at hI
          go_wp2_with fail
          go_ret
          exact ⟨_, rfl, hI⟩
end Go.Proofs.YthceikgkaellkaaGreat
set_option linter.unusedVariables false
namespace Go.Proofs.YthceikgkaellkaaGreat
open Go.RowKit Go.RR





theorem seq_any (S : Nat → Prop) (v : Value) (vs : List Value) (ls : List (List In)) (w : World) (hs : Sl w S 1 v vs.length vs) (hr : PRows w vs ls) (hn : vs.length ≤ 1000) (hl : ls.flatten.length ≤ 100000) :
    Calls Tryz.prog 33 #[v] w (RetSl fun v' w' => IsNew w w' v' ls.flatten) := by
  obtain ⟨p, cap, rfl⟩ := hs.form
  have HS := Lib.hid hs
  have HR := Lib.hid hr
  clear hs hr
  go_enter Tryz.func33, Tryz.ntmps33
  go_wp2_with fail
  refine (concat_any S _ vs ls _ HS.out HR.out hn hl).mono ?_
  rintro e w1 ⟨v1, rfl, o1⟩
  have HO := Lib.hid o1
  clear o1
  go_wp2_with fail
  go_ret
  exact ⟨_, rfl, HO.out⟩

def madeF (l : List In) : List In := if rightP l = true then l else []
theorem made_any39 (w0 w : World) (v : Value) (l : List In) (h : IsNew w0 w v l) (hl : l.length ≤ 100000) : Calls Tryz.prog 68 #[v] w (RetSl fun v' w' => IsNew w0 w' v' (madeF l)) := by
  have H := Lib.hid h
  clear h
  obtain ⟨b, hb⟩ : ∃ b, rightP l = b := ⟨_, rfl⟩
  have HB := Lib.hid hb
  unfold madeF
  rw [hb]
  clear hb
  go_enter Tryz.func68, Tryz.ntmps68
  go_wp2_with fail
  refine (bright_any _ _ l _ H.out.1.sl hl).mono ?_
  rintro e w1 ⟨rfl, C1⟩
  rw [HB.out]
  have H1 := Lib.hid (H.out.then0 C1)
  clear C1
  cases b
  · go_wp2_with fail
    go_ret
    exact ⟨_, rfl, Own.nil _ _ _ _, H1.out.2⟩
  · go_wp2_with fail
    go_ret
    exact ⟨_, rfl, H1.out⟩
theorem jal_any (n : Int) (w : World) : Calls Tryz.prog 70 #[.int .i64 n] w (RetW (.agg #[.int .i64 18, .int .i64 0, .int .i64 0, .int .i64 0, .int .i64 n]) fun w' => Chg NoB w w') := by
  go_enter Tryz.func70, Tryz.ntmps70
  go_wp2
  exact bodyPost_ret (by simp [results, Tryz.results70, go_sem]) rfl ⟨rfl, (Chg.refl _ _).alloc _⟩

theorem ownB_in {n : Int} (h : ownB n = true) : 1 ≤ n ∧ n ≤ 15 := by unfold ownB at h; simp at h; omega
end Go.Proofs.YthceikgkaellkaaGreat
set_option linter.unusedVariables false
namespace Go.Proofs.YthceikgkaellkaaGreat
open Go.RowKit Go.RR

theorem IsNew.appd {w w3 w4 : World} {v v' : Value} {l m : List In} (h : IsNew w w3 v l) (o : Own w4 (fun k => v.ownBlock = some k ∨ k = w3.heap.size) 40 5 v' (l.length + m.length) (icells l ++ icells m)) (g : w3.grownBy w4 v.ownBlock) : IsNew w w4 v' (l ++ m) := by
  have hob := h.1.ownBlock
  refine ⟨?_, h.2.grown g fun k hk => .inr (hob k hk).1⟩
  rw [icells_app, List.length_append]
  exact o.mono fun k hk => hk.elim (fun h => (hob k h).1) (fun e => by have := h.2.size; omega)
def constG : Nat → Int → Int → List In
  | 0, rd, n => [⟨1, rd, 0, 0, n⟩]
  | f + 1, rd, n => if -2048 ≤ n ∧ n ≤ 2047 then [⟨1, rd, 0, 0, n⟩] else constG f rd (n / 2048) ++ (⟨3, rd, rd, 0, 11⟩ :: if n % 2048 = 0 then [] else [⟨2, rd, rd, 0, n % 2048⟩])
theorem constG_len (rd : Int) : ∀ (f : Nat) (n : Int), 1 ≤ (constG f rd n).length ∧ (constG f rd n).length ≤ 2 * f + 1
  | 0, n => by simp [constG]
  | f + 1, n => by
    have := constG_len rd f (n / 2048)
    unfold constG
    split
    · simp
    · split <;> simp <;> omega
def constF (rd n : Int) : List In := if ownB rd = true then constG 6 rd n else []
def U64 : Int := 18446744073709551616
theorem low11 (v n : Int) (h : v = n % U64) : bits .and .u64 v 2047 = n % 2048 := by
  unfold U64 at h
  have := bits_mask .u64 64 (by decide) (fun m h0 h1 => by rw [IntKind.wrap_u64]; omega) 11 (by decide) v (by omega) (by omega)
  have e1 : ((2 : Int) ^ 11 - 1) = 2047 := by decide
  have e2 : ((2 : Int) ^ 11) = 2048 := by decide
  rw [e1, e2] at this
  rw [this]
  omega

set_option maxHeartbeats 2000000 in
set_option maxRecDepth 100000 in
theorem const_go (rd : Int) (hr : ownB rd = true) : ∀ (f : Nat) (n : Int) (w : World), f ≤ 6 → -(2048 ^ (f + 1)) ≤ n → n < 2048 ^ (f + 1) → -9223372036854775808 ≤ n → n ≤ 9223372036854775807 → ∀ v : Int, v = n % U64 → Calls Tryz.prog 25 #[.int .i64 rd, .int .u64 v] w (RetSl fun x w' => IsNew w w' x (constG f rd n)) := by
  obtain ⟨i0, hi0, hz0, hz1, hz2⟩ := info_parts INinfo
  have HR := Lib.hid hr
  have HI := Lib.hid (And.intro hi0 (And.intro hz0 (And.intro hz1 hz2)))
  clear hr hi0 hz0 hz1 hz2
  intro f
  induction f with
  | zero =>
    intro n w hf h1 h2 h3 h4 v hv
    have hc : IntKind.i64.wrap v = n := by rw [IntKind.wrap_i64, hv]; unfold U64; omega
    have t0 : decide (-2048 ≤ n) = true := by simp; omega
    have t1 : decide (n ≤ 2047) = true := by simp; omega
    clear h1 h2 h3 hv
    go_enter Tryz.func25, Tryz.ntmps25
    go_wp2_with fail
    refine (own_any39 rd _).mono ?_
    rintro e w1 ⟨rfl, rfl⟩
    rw [HR.out]
    go_wp2_with fail
    go_ret
    exact ⟨_, rfl, IsNew.fresh _ [⟨1, rd, 0, 0, n⟩] _ rfl 1 rfl (by omega)⟩
  | succ f ih =>
    intro n w hf h1 h2 h3 h4 v hv
    have HV := Lib.hid hv
    have hc : IntKind.i64.wrap v = n := by rw [IntKind.wrap_i64, hv]; unfold U64; omega
    have IH := Lib.hid ih
    have HB := Lib.hid (And.intro h1 (And.intro h2 (And.intro h3 h4)))
    have HB0 := h3
    have h4' := h4
    clear hv ih h1 h2 h3 h4
    by_cases hs : -2048 ≤ n ∧ n ≤ 2047
    · have h1 := hs.1
      have h2 := hs.2
      have e : constG (f + 1) rd n = constG 0 rd n := by show _ = [(⟨1, rd, 0, 0, n⟩ : In)]; unfold constG; rw [if_pos hs]
      rw [e]
      clear hs e hc IH HB
      have hv := HV.out
      have h3 := HB0
      have hc : IntKind.i64.wrap v = n := by rw [IntKind.wrap_i64, hv]; unfold U64; omega
      have t0 : decide (-2048 ≤ n) = true := by simp; omega
      have t1 : decide (n ≤ 2047) = true := by simp; omega
      clear h1 h2 h3 hv
      go_enter Tryz.func25, Tryz.ntmps25
      go_wp2_with fail
      refine (own_any39 rd _).mono ?_
      rintro e w1 ⟨rfl, rfl⟩
      rw [HR.out]
      go_wp2_with fail
      go_ret
      exact ⟨_, rfl, IsNew.fresh _ [⟨1, rd, 0, 0, n⟩] _ rfl 1 rfl (by omega)⟩
    · have hwr : IntKind.u64.wrap (n / 2048) = (n / 2048) % U64 := by rw [IntKind.wrap_u64]; rfl
      have HW := Lib.hid hwr
      have HS := Lib.hid hs
      obtain ⟨r, hr⟩ : ∃ r, n % 2048 = r := ⟨_, rfl⟩
      have kb := low11 v n HV.out
      rw [hr] at kb
      have r0 : 0 ≤ r := by omega
      have r1 : r ≤ 2047 := by omega
      have HRR := Lib.hid hr
      clear hr
      have hcase : (decide (-2048 ≤ n) = false) ∨ (decide (-2048 ≤ n) = true ∧ decide (n ≤ 2047) = false) := by
        by_cases h : -2048 ≤ n
        · right; simp; omega
        · left; simp; omega
      clear hwr hs
      rcases hcase with t0 | ⟨t0, t1⟩
      all_goals
        go_enter Tryz.func25, Tryz.ntmps25
        go_wp2_with fail
        refine (own_any39 rd _).mono ?_
        rintro e w1 ⟨rfl, rfl⟩
        rw [HR.out]
        go_wp2_with fail
        refine (IH.out (n / 2048) _ (by omega) (by have := HB.out; rw [Int.pow_succ] at this; omega) (by have := HB.out; rw [Int.pow_succ] at this; omega) (by have := HB.out; omega) (by have := HB.out; omega) _ HW.out).mono ?_
        rintro e w2 ⟨v2, rfl, N2⟩
        obtain ⟨p2, c2, e⟩ := N2.1.form
        subst e
        have hlen := constG_len rd f (n / 2048)
        have D2 := (Chg.refl NoB w2).alloc (.cells #[.int .i64 3, .int .i64 rd, .int .i64 rd, .int .i64 0, .int .i64 11] 40)
        have N3 := N2.then0 D2
        have oA := N3.1
        have sB := (IsNew.fresh w2 [⟨3, rd, rd, 0, 11⟩] _ rfl 1 rfl (by omega)).1.sl
        have one1 := icells_one [⟨3, rd, rd, 0, 11⟩]
        have b1 : (constG f rd (n / 2048)).length + 1 ≤ maxLen := by unfold maxLen; omega
        have b2 : ((constG f rd (n / 2048)).length + 1) * 40 ≤ 140737488355328 := by omega
        obtain ⟨hi0, hz0, hz1, hz2⟩ := HI.out
        generalize hG : constG f rd (n / 2048) = G at *
        have HG := Lib.hid hG
        have H3 := Lib.hid N3
        clear N2 N3 D2 hG
        go_wp2_with (at_builtin; go_must (refine wpList_app rfl _ _ 53 rfl i0 _ 40 Tryz.underlying53 hi0 hz0 hz1 hz2 rfl rfl oA _ 1 _ rfl sB one1 b1 b2 ?_))
        intro v4 w4 o4 g4 _
        have N4 := H3.out.appd (m := [⟨3, rd, rd, 0, 11⟩]) (by simpa using o4) g4
        obtain ⟨p4, c4, e⟩ := N4.1.form
        subst e
        have H4 := Lib.hid N4
        clear N4 o4 g4 oA sB one1 b1 b2 H3 hi0 hz0 hz1 hz2
        by_cases hz : r = 0
        · have q0 : (r != 0) = false := by simp [hz]
          have HZ := Lib.hid hz
          clear hz
          go_wp2_with fail
          go_ret
          refine ⟨_, rfl, ?_⟩
          have e : constG (f + 1) rd n = G ++ [(⟨3, rd, rd, 0, 11⟩ : In)] := by
            rw [constG, if_neg HS.out, HG.out, HRR.out, if_pos HZ.out]
          rw [e]
          exact H4.out
        · have q0 : (r != 0) = true := by simp [hz]
          have HZ := Lib.hid hz
          clear hz
          have N5 := H4.out.then0 ((Chg.refl NoB w4).alloc (.cells #[.int .i64 2, .int .i64 rd, .int .i64 rd, .int .i64 0, .int .i64 r] 40))
          have oA := N5.1
          have sB := (IsNew.fresh w4 [⟨2, rd, rd, 0, r⟩] _ rfl 1 rfl (by omega)).1.sl
          have one1 := icells_one [⟨2, rd, rd, 0, r⟩]
          have b1 : (G ++ [(⟨3, rd, rd, 0, 11⟩ : In)]).length + 1 ≤ maxLen := by unfold maxLen; simp; omega
          have b2 : ((G ++ [(⟨3, rd, rd, 0, 11⟩ : In)]).length + 1) * 40 ≤ 140737488355328 := by simp; omega
          obtain ⟨hi0, hz0, hz1, hz2⟩ := HI.out
          generalize hG2 : G ++ [(⟨3, rd, rd, 0, 11⟩ : In)] = G2 at *
          have HG2 := Lib.hid hG2
          have H5 := Lib.hid N5
          clear hG2 N5 H4
          go_wp2_with (at_builtin; go_must (refine wpList_app rfl _ _ 53 rfl i0 _ 40 Tryz.underlying53 hi0 hz0 hz1 hz2 rfl rfl oA _ 1 _ rfl sB one1 b1 b2 ?_))
          intro v6 w6 o6 g6 _
          have N6 := H5.out.appd (m := [⟨2, rd, rd, 0, r⟩]) (by simpa using o6) g6
          have H6 := Lib.hid N6
          clear N6 o6 g6 oA sB one1 b1 b2 H5 hi0 hz0 hz1 hz2
          go_wp2_with fail
          go_ret
          refine ⟨_, rfl, ?_⟩
          have e : constG (f + 1) rd n = G2 ++ [⟨2, rd, rd, 0, r⟩] := by
            rw [constG, if_neg HS.out, HG.out, HRR.out, if_neg HZ.out, ← HG2.out]; simp
          rw [e]
          exact H6.out
end Go.Proofs.YthceikgkaellkaaGreat
