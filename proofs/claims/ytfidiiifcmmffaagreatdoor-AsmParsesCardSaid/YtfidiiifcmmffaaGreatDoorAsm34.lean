/- The reference's find, and its Parse is the plain reading of a text. No condition. -/
import Derived.Test.YtfidiiifcmmffaaGreatDoorAsm33
import Derived.Test.YtfidiiifcmmffaaGreatDoorAsm21
import Derived.Test.YtfidiiifcmmffaaGreatDoorAsmP7
set_option linter.unusedVariables false
set_option linter.unusedSimpArgs false
namespace Go.Proofs.YtfidiiifcmmffaaGreatDoor
open Go.RowKit Go.RR
def mC (ls : List (Bs × Nat)) : List Value := ls.flatMap fun p => [.string ⟨p.1.toArray⟩, .int .i64 p.2]
theorem mC_app (ls : List (Bs × Nat)) (nm : Bs) (n : Nat) : mC (ls ++ [(nm, n)]) = mC ls ++ [.string ⟨nm.toArray⟩, .int .i64 n] := by unfold mC; rw [List.flatMap_append]; rfl
theorem mC_get {ls : List (Bs × Nat)} {n : Nat} {p : Bs × Nat} (h : ls[n]? = some p) {q : Nat} (hq : q < 2) : (mC ls)[n * 2 + q]? = ([.string ⟨p.1.toArray⟩, .int .i64 p.2] : List Value)[q]? := by
  unfold mC
  exact flat_get _ 2 (fun _ => rfl) ls n p q h hq
def findV (o : Option Nat) : Int := match o with
  | some q => q
  | none => -1
theorem look_step {ls : List (Bs × Nat)} {k : Nat} {p : Bs × Nat} (h : ls[k]? = some p) {nm : Bs} (hno : lookL (ls.take k) nm = none) : (p.1 ≠ nm → lookL (ls.take (k + 1)) nm = none) ∧ (p.1 = nm → lookL ls nm = some p.2) := by
  obtain ⟨h1, h2⟩ := List.getElem?_eq_some_iff.1 h
  unfold lookL at hno ⊢
  have hn : (ls.take k).find? (fun q => q.1 == nm) = none := by
    cases hf : (ls.take k).find? (fun q => q.1 == nm) with
    | none => rfl
    | some x => rw [hf] at hno; cases hno
  refine ⟨fun hp => ?_, fun hp => ?_⟩
  · rw [List.take_add_one, h, Option.toList_some, List.find?_append, hn]
    simp [hp]
  · have e : ls = ls.take k ++ p :: ls.drop (k + 1) := by
      rw [← h2]; simp
    conv => lhs; rw [e]
    rw [List.find?_append, hn]
    simp [hp]
set_option maxHeartbeats 4000000 in
set_option maxRecDepth 100000 in
theorem rfind_any (S : Nat → Prop) (v : Value) (ls : List (Bs × Nat)) (nm : Bs) (w : World) (hs : Sl w S 2 v ls.length (mC ls)) (hl : ls.length ≤ 100000) : Calls Tryz.prog 41 #[v, .string ⟨nm.toArray⟩] w (RetW (.int .i64 (findV (lookL ls nm))) fun w' => Chg NoB w w') := by
  obtain ⟨-, p, cap, rfl, hcap, hsp⟩ := hs
  have HSP := Lib.hid hsp
  have HL := Lib.hid hl
  obtain ⟨nl, hnl⟩ : ∃ nl, ls.length = nl := ⟨_, rfl⟩
  rw [hnl]
  rw [hnl] at HSP HL hcap
  have HNL := Lib.hid hnl
  clear hsp hl hnl
  go_enter Tryz.func41, Tryz.ntmps41
  go_wp2_with fail
  go_loopg [9] nl (fun g kv wr => ∃ k : Nat, k + g = nl ∧ kv = .int .i64 k ∧ lookL (ls.take k) nm = none ∧ Chg NoB w wr)
  case atStart => exact ⟨0, Nat.zero_add _, rfl, rfl, Chg.refl _ _⟩
  case round =>
    obtain ⟨k, hk, rfl, hno, hC⟩ := hrel
    rename World => wr
    have HK := Lib.hid hk
    have HNO := Lib.hid hno
    have HC := Lib.hid hC
    have hkn : k ≤ nl := by omega
    have hnb := HL.out
    have k0 : (0 : Int) ≤ k := by omega
    clear hk hno hC
    by_cases hlt : k < nl
    · obtain ⟨⟨nm', at'⟩, hp⟩ : ∃ p, ls[k]? = some p := ⟨_, List.getElem?_eq_getElem (by rw [HNL.out]; exact hlt)⟩
      obtain ⟨g, off, rfl, -, hg, hc⟩ := HSP.out (by omega)
      have x0 := HC.out.cell (hc (k * 2) _ (mC_get hp (q := 0) (by omega))) id
      have x1 := HC.out.cell (hc (k * 2 + 1) _ (mC_get hp (q := 1) (by omega))) id
      simp only [← Nat.add_assoc] at x0 x1
      have k1 : (k : Int) < nl := by omega
      obtain ⟨h1, h2⟩ := look_step hp HNO.out
      have e1 := bl_list nm'
      have e2 := bl_list nm
      have hgw : g < wr.heap.size := Nat.lt_of_lt_of_le hg HC.out.size
      cases hb : decide (nm' = nm)
      · have hn := h1 (of_decide_eq_false hb)
        have t1 : (nm' == nm) = false := by rw [beq_eq_false_iff_ne]; exact of_decide_eq_false hb
        have HN := Lib.hid hn
        clear h1 h2 hn hp hb hc
        go_wp2_with fail
        go_roundg (nl - (k + 1))
        case measure => have := HK.out; omega
        case rel => exact ⟨k + 1, by have := HK.out; omega, by go_num, HN.out, HC.out.alloc _⟩
      · have hn := h2 (of_decide_eq_true hb)
        have t1 : (nm' == nm) = true := by rw [beq_iff_eq]; exact of_decide_eq_true hb
        have HN := Lib.hid hn
        clear h1 h2 hn hp hb hc
        go_wp2_with fail
        go_ret
        exact ⟨by rw [HN.out]; rfl, HC.out.alloc _⟩
    · obtain rfl : nl = k := by omega
      have HN : Hid (lookL ls nm = none) := Lib.hid (by have := HNO.out; rwa [List.take_of_length_le (by rw [HNL.out]; exact Nat.le_refl _)] at this)
      go_wp2_with fail
      go_ret
      exact ⟨by rw [HN.out]; rfl, HC.out⟩
/-! The two passes. -/
theorem stepF_grow {n : Nat} {st st' : PSt} {s : Bs} (h : stepF n st s = some st') : st.l.length ≤ st'.l.length ∧ ∃ J, st'.js = st.js ++ J := by
  unfold stepF at h
  split at h
  · cases h; exact ⟨Nat.le_refl _, [], by simp⟩
  · split at h
    · split at h
      · cases h
      · cases h; exact ⟨Nat.le_refl _, [], by simp⟩
    · split at h
      · cases h; exact ⟨by simp, [], by simp⟩
      · split at h
        · cases h; exact ⟨by simp, _, rfl⟩
        · cases h
theorem runF_grow : ∀ (r : List Bs) (n : Nat) (st F : PSt), runF n st r = .inl F → st.l.length ≤ F.l.length ∧ ∃ J, F.js = st.js ++ J
  | [], n, st, F, h => by cases h; exact ⟨Nat.le_refl _, [], by simp⟩
  | s :: r, n, st, F, h => by
    rw [runF_cons] at h
    cases hs : stepF (n + 1) st s with
    | none => rw [hs] at h; cases h
    | some st' =>
      rw [hs] at h
      obtain ⟨a1, J1, e1⟩ := stepF_grow hs
      obtain ⟨a2, J2, e2⟩ := runF_grow r (n + 1) st' F h
      exact ⟨by omega, J1 ++ J2, by rw [e2, e1, List.append_assoc]⟩
theorem js_rest {a J J' : List (Nat × Nat × Bs)} {b x : List (Nat × Nat × Bs)} (h1 : x = a ++ J) (h2 : x = (a ++ b) ++ J') : J = b ++ J' := by
  rw [h1, List.append_assoc] at h2
  exact List.append_cancel_left h2
theorem step_empty' {n : Nat} {st : PSt} {s : Bs} (h : stripF s = []) : stepF n st s = some st := by unfold stepF; rw [if_pos h]
theorem step_label {n : Nat} {st : PSt} {s r : Bs} (h : stripF s = r ++ [58]) : stepF n st s = if (lookL st.ls r).isSome = true ∨ labB r = false then none else some ⟨st.l, st.ls ++ [(r, st.l.length)], st.js⟩ := by
  unfold stepF
  rw [h, if_neg (by simp), if_pos (by simp)]
  simp
theorem step_line {n : Nat} {st : PSt} {s r : Bs} {c : UInt8} (h : stripF s = r ++ [c]) (hc : c ≠ 58) : stepF n st s = match lineP (r ++ [c]) with
    | some i => some ⟨st.l ++ [i], st.ls, st.js⟩
    | none => match namedP (r ++ [c]) with
      | some (x, nm) => some ⟨st.l ++ [x], st.ls, st.js ++ [(n, st.l.length, nm)]⟩
      | none => none := by
  unfold stepF
  rw [h, if_neg (by simp), if_neg (by simp; exact hc)]
  rfl
theorem MKinfo : (Tryz.prog.info? 77).map (fun i => (i.zero, i.size, i.bytes)) = some (some (.agg #[.string ⟨#[]⟩, .int .i64 0]), 2, 24) := by kernel_rfl
def RParsed (s : Bs) (w : World) (v : Value) (w' : World) : Prop := Chg NoB w w' ∧ ∃ lv, v = .tuple #[lv, .int .i64 (parseF s).2.1, .bool (parseF s).2.2] ∧ InsV w' lv (parseF s).1
/-- Out and marks, as slices in blocks from H on. -/
structure PX (w : World) (H : Nat) (ov mv : Value) (st : PSt) (t : Nat → Nat) : Prop where
  o : Own w (Tg t 1 H w) 24 5 ov st.l.length (iC st.l)
  m : Own w (Tg t 2 H w) 77 2 mv st.ls.length (mC st.ls)
theorem PX.chg0 {w w' : World} {H : Nat} {ov mv : Value} {st : PSt} {t : Nat → Nat} (h : PX w H ov mv st t) (c : Chg NoB w w') : PX w' H ov mv st t :=
  ⟨(h.o.chg0 c).mono fun k hk => hk.more c.size, (h.m.chg0 c).mono fun k hk => hk.more c.size⟩
theorem PX.ins {w w1 w8 : World} {H : Nat} {ov mv : Value} {st : PSt} {t : Nat → Nat} (h : PX w H ov mv st t) (hH : H ≤ w.heap.size) {v8 : Value} {m : Nat} {us : List Value} {l : List In} {n1 : Nat} (c : Chg NoB w w1) (hn1 : n1 = w1.heap.size)
    (o8 : Own w8 (fun k => ov.ownBlock = some k ∨ k = n1) 24 5 v8 m us) (g8 : w1.grownBy w8 ov.ownBlock) (hm : m = l.length) (hus : us = iC l) (js : List (Nat × Nat × Bs)) :
    PX w8 H v8 mv ⟨l, st.ls, js⟩ (tup t 1 w.heap.size) ∧ Chg (fun k => H ≤ k) w w8 := by
  subst hn1
  obtain ⟨o9, C8⟩ := app_tag h.o c o8 g8 hH
  subst hm hus
  exact ⟨⟨o9, own_keep h.m C8 (by omega)⟩, C8.mono fun k _ hk => hk.2.1⟩
theorem PX.mark {w w1 w8 : World} {H : Nat} {ov mv : Value} {st : PSt} {t : Nat → Nat} (h : PX w H ov mv st t) (hH : H ≤ w.heap.size) {v8 : Value} {m : Nat} {us : List Value} {ls : List (Bs × Nat)} {n1 : Nat} (c : Chg NoB w w1) (hn1 : n1 = w1.heap.size)
    (o8 : Own w8 (fun k => mv.ownBlock = some k ∨ k = n1) 77 2 v8 m us) (g8 : w1.grownBy w8 mv.ownBlock) (hm : m = ls.length) (hus : us = mC ls) (js : List (Nat × Nat × Bs)) :
    PX w8 H ov v8 ⟨st.l, ls, js⟩ (tup t 2 w.heap.size) ∧ Chg (fun k => H ≤ k) w w8 := by
  subst hn1
  obtain ⟨o9, C8⟩ := app_tag h.m c o8 g8 hH
  subst hm hus
  exact ⟨⟨own_keep h.o C8 (by omega), o9⟩, C8.mono fun k _ hk => hk.2.1⟩
theorem strip_lens {s : Bs} {q : Bs} (h : q ∈ (wordsF 10 s).map stripF) : q.length ≤ s.length := by
  obtain ⟨p, hp, rfl⟩ := List.mem_map.1 h
  exact Nat.le_trans (strip_len p) ((words_le 10 s).2 p hp)
theorem stepF_ls {n : Nat} {st st' : PSt} {s : Bs} (h : stepF n st s = some st') : st'.l.length ≤ st.l.length + 1 ∧ st'.ls.length ≤ st.ls.length + 1 := by
  unfold stepF at h
  split at h
  · cases h; exact ⟨by omega, by omega⟩
  · split at h
    · split at h
      · cases h
      · cases h; exact ⟨by simp, by simp⟩
    · split at h
      · cases h; exact ⟨by simp, by simp⟩
      · split at h
        · cases h; exact ⟨by simp, by simp⟩
        · cases h
theorem link_some {ls : List (Bs × Nat)} {n k : Nat} {nm : Bs} {r : List (Nat × Nat × Bs)} {l : List In} {q : Nat} (h : lookL ls nm = some q) : linkF ls ((n, k, nm) :: r) l = if (q : Int) - k < -2048 ∨ 2048 ≤ (q : Int) - k then .inr n else linkF ls r (setIm l k (q - k)) := by
  conv => lhs; unfold linkF
  rw [h]
/-- Where the first pass is, behind k lines. -/
structure P1 (Ls : List Bs) (k : Nat) (st : PSt) : Prop where
  run : runF 0 ⟨[], [], []⟩ Ls = runF k st (Ls.drop k)
  l : st.l.length ≤ k
  ls : st.ls.length ≤ k
  ok : JsOk st
theorem P1.next {Ls : List Bs} {k : Nat} {st st' : PSt} {p : Bs} (h : P1 Ls k st) (hp : Ls[k]? = some p) (hs : stepF (k + 1) st p = some st') (hk : Ls.length ≤ 60001) : P1 Ls (k + 1) st' := by
  obtain ⟨h1, h2⟩ := List.getElem?_eq_some_iff.1 hp
  obtain ⟨a1, a2⟩ := stepF_ls hs
  have := h.l
  have := h.ls
  refine ⟨?_, by omega, by omega, (stepF_ok hs h.ok (by omega)).1⟩
  rw [h.run, List.drop_eq_getElem_cons h1, h2, runF_cons, hs]
theorem P1.bad {Ls : List Bs} {k : Nat} {st : PSt} {p : Bs} (h : P1 Ls k st) (hp : Ls[k]? = some p) (hs : stepF (k + 1) st p = none) : runF 0 ⟨[], [], []⟩ Ls = .inr (k + 1) := by
  obtain ⟨h1, h2⟩ := List.getElem?_eq_some_iff.1 hp
  rw [h.run, List.drop_eq_getElem_cons h1, h2, runF_cons, hs]
set_option maxHeartbeats 8000000 in
set_option maxRecDepth 100000 in
theorem rparse_any (s : Bs) (w : World) (hs : s.length ≤ 60000) : Calls Tryz.prog 17 #[.string ⟨s.toArray⟩] w (RetV fun v w' => RParsed s w v w') := by
  obtain ⟨Ls, hLs⟩ : ∃ Ls, wordsF 10 s = Ls := ⟨_, rfl⟩
  obtain ⟨Qs, hQs⟩ : ∃ Qs, Ls.map stripF = Qs := ⟨_, rfl⟩
  have hwl := (words_le 10 s).1
  have H0 := Lib.hid (rlines_any s w (by omega))
  rw [hLs] at hwl H0
  rw [hQs] at H0
  have HP : Hid (parseF s = endF (runF 0 ⟨[], [], []⟩ Ls)) := Lib.hid (by unfold parseF; rw [hLs])
  have HQL : Hid (∀ q ∈ Qs, q.length ≤ s.length) := Lib.hid (by rw [← hQs, ← hLs]; exact fun q hq => strip_lens hq)
  obtain ⟨nl, hnl⟩ : ∃ nl, Qs.length = nl := ⟨_, rfl⟩
  have hnl2 : Ls.length = nl := by rw [← hnl, ← hQs, List.length_map]
  have hnb : nl ≤ 60001 := by omega
  rw [hnl] at H0
  have HNL := Lib.hid hnl
  have HNL2 := Lib.hid hnl2
  have HQS := Lib.hid hQs
  have HSL := Lib.hid hs
  have HLB : Hid (Ls.length ≤ 60001) := Lib.hid (by omega)
  have n65 : decide ((65536 : Int) < s.length) = false := decide_eq_false (by omega)
  obtain ⟨k0', hk0', kz0, kz1, kz2⟩ := info_parts MKinfo
  have HMI := Lib.hid (And.intro hk0' (And.intro kz0 (And.intro kz1 kz2)))
  clear hLs hwl hnl hnl2 hQs hs hk0' kz0 kz1 kz2
  go_enter Tryz.func17, Tryz.ntmps17
  go_wp2_with fail
  refine H0.out.mono ?_
  rintro e w1 ⟨lv, rfl, O1, C1⟩
  obtain ⟨lp, lc, rfl⟩ := O1.form
  have HC1 := Lib.hid C1
  have HO1 := Lib.hid O1.sl
  clear C1 O1 H0
  go_wp2_with fail
  go_loopg [5, 6, 32] nl (fun g ov mv kv wr => ∃ (k : Nat) (st : PSt) (t : Nat → Nat), k + g = nl ∧ kv = .int .i64 k ∧ P1 Ls k st ∧ PX wr w1.heap.size ov mv st t ∧ Chg (fun k => w1.heap.size ≤ k) w1 wr)
  case atStart => exact ⟨0, ⟨[], [], []⟩, fun _ => 0, Nat.zero_add _, rfl, ⟨rfl, Nat.le_refl _, Nat.le_refl _, ⟨fun j h => (by cases h), fun p h => (by cases h)⟩⟩, ⟨Own.nil .., Own.nil ..⟩, Chg.refl _ _⟩
  case round =>
    obtain ⟨k, st, t, hk, rfl, hP1, hPX, hC⟩ := hrel
    rename World => wr
    obtain ⟨op, oc, rfl⟩ := hPX.o.form
    obtain ⟨mp, mc, rfl⟩ := hPX.m.form
    have HK := Lib.hid hk
    have HP1 := Lib.hid hP1
    have HPX := Lib.hid hPX
    have HC := Lib.hid hC
    have HH : Hid (w1.heap.size ≤ wr.heap.size) := Lib.hid hC.size
    have HCW : Hid (Chg NoB w wr) := Lib.hid (HC1.out.trans hC fun k h1 h2 => by have := HC1.out.size; omega)
    have hkn : k ≤ nl := by omega
    have hk0 : (0 : Int) ≤ k := by omega
    clear hk hP1 hPX hC
    by_cases hlt : k < nl
    · obtain ⟨p, hp⟩ : ∃ p, Ls[k]? = some p := ⟨_, List.getElem?_eq_getElem (by rw [HNL2.out]; exact hlt)⟩
      obtain ⟨q, hq⟩ : ∃ q, stripF p = q := ⟨_, rfl⟩
      have hqk : Qs[k]? = some q := by rw [← HQS.out, List.getElem?_map, hp, ← hq]; rfl
      obtain ⟨-, lp', lc', hle, -, hsp⟩ := HO1.out
      obtain ⟨g, off, hlp, hgS, hg, hcell⟩ := hsp (by omega)
      have x0 : wr.cell? ⟨g, off + k, none⟩ = some (.string ⟨q.toArray⟩) := HC.out.cell (hcell k _ (by rw [List.getElem?_map, hqk]; rfl)) (fun h => absurd hg (Nat.not_lt.2 h))
      obtain ⟨rfl, rfl⟩ : lp = lp' ∧ lc = lc' := by
        simp only [Value.slice.injEq] at hle
        exact ⟨hle.1, hle.2.2⟩
      subst hlp
      have hgr : g < wr.heap.size := by have := HH.out; omega
      have HPK := Lib.hid hp
      have HQP := Lib.hid hq
      have HQN : Hid (q.length ≤ 60000) := Lib.hid (by have := HQL.out q (List.mem_of_getElem? hqk); have := HSL.out; omega)
      have k1 : (k : Int) < nl := by omega
      have hob := HPX.out.o.ownBlock
      have hmb := HPX.out.m.ownBlock
      clear hp hq hqk hle hsp hgS hg hcell hob hmb
      by_cases hqe : q = []
      · subst hqe
        have HN1 := Lib.hid (HP1.out.next HPK.out (step_empty' HQP.out) HLB.out)
        go_wp2_with fail
        go_roundg (nl - (k + 1))
        case measure => have := HK.out; omega
        case rel => exact ⟨k + 1, st, t, by have := HK.out; omega, by go_num, HN1.out, HPX.out, HC.out⟩
      · obtain ⟨r, c, hrc⟩ := snoc_of hqe
        have e1 := bl_list q
        have e2 : (q == ([] : Bs)) = false := by rw [beq_eq_false_iff_ne]; exact hqe
        have e3 : q.isEmpty = false := by rw [List.isEmpty_eq_false_iff]; exact hqe
        have hql : q.length = r.length + 1 := by rw [hrc]; simp
        have hcq : q[r.length]? = some c := by rw [hrc]; simp
        have n1 : (q.length : Int) - 1 = r.length := by omega
        have x1 := ex_take q r.length
        rw [show q.take r.length = r by rw [hrc]; simp] at x1
        obtain ⟨hsz, hv⟩ := byte_at hcq
        have HRC := Lib.hid hrc
        have HQE := Lib.hid hqe
        have hrl : r.length ≤ 60000 := by have := HQN.out; omega
        have HRL := Lib.hid hrl
        have t0 : ((c.toNat : Int) == 58) = decide (c = 58) := byteD c 58
        clear hrc hqe hcq
        by_cases hc : c = 58
        · rw [decide_eq_true hc] at t0
          have HST : Hid (∀ n, stepF n st p = if (lookL st.ls r).isSome = true ∨ labB r = false then none else some ⟨st.l, st.ls ++ [(r, st.l.length)], st.js⟩) := Lib.hid fun n => step_label (by rw [HQP.out, HRC.out, hc])
          clear hc
          go_wp2_with fail
          with_reducible refine (rlabel_any r _ (by have := HRL.out; omega)).mono ?_
          rintro e w2 ⟨rfl, hw2⟩
          subst hw2
          obtain ⟨yl, hyl⟩ : ∃ y, labB r = y := ⟨_, rfl⟩
          rw [hyl] at HST ⊢
          have HYL := Lib.hid hyl
          clear hyl
          cases yl
          ·
            have HF2 : Hid (parseF s = ([], k + 1, false)) := Lib.hid (by rw [HP.out, HP1.out.bad HPK.out (by rw [HST.out, if_pos (.inr rfl)])]; rfl)
            go_wp2_with fail
            go_ret3
            refine ⟨_, rfl, HCW.out, .slice none 0 0, ?_, ?_⟩
            · rw [HF2.out]; exact congrArg (fun z : Int => Value.tuple #[.slice none 0 0, .int .i64 z, .bool false]) (show (k : Int) + 1 = ((k + 1 : Nat) : Int) by omega)
            · rw [HF2.out]; exact ⟨fun _ => True, Sl.nil ..⟩
          · go_wp2_with fail
            with_reducible refine (rfind_any _ _ st.ls r _ HPX.out.m.sl (by have := HP1.out.ls; omega)).mono ?_
            rintro e w3 ⟨rfl, C3⟩
            have HC3 := Lib.hid C3
            clear C3
            cases hlk : lookL st.ls r with
            | some n =>
              rw [hlk] at HST
              clear hlk
              have f0 : decide ((0 : Int) ≤ n) = true := decide_eq_true (by omega)
              simp only [findV]
              have HF2 : Hid (parseF s = ([], k + 1, false)) := Lib.hid (by rw [HP.out, HP1.out.bad HPK.out (by rw [HST.out, if_pos (.inl rfl)])]; rfl)
              go_wp2_with fail
              go_ret3
              refine ⟨_, rfl, (HCW.out.step HC3.out), .slice none 0 0, ?_, ?_⟩
              · rw [HF2.out]; exact congrArg (fun z : Int => Value.tuple #[.slice none 0 0, .int .i64 z, .bool false]) (show (k : Int) + 1 = ((k + 1 : Nat) : Int) by omega)
              · rw [HF2.out]; exact ⟨fun _ => True, Sl.nil ..⟩
            | none =>
              rw [hlk] at HST
              clear hlk
              have HST2 : Hid (∀ n, stepF n st p = some ⟨st.l, st.ls ++ [(r, st.l.length)], st.js⟩) := Lib.hid fun n => by rw [HST.out, if_neg (by simp)]
              clear HST
              simp only [findV]
              have SX : Sl (w3.alloc (.cells #[.string ⟨r.toArray⟩, .int .i64 st.l.length] 77)) (fun k => k = w3.heap.size) 2 (.slice (some ⟨w3.heap.size, 0, none⟩) 1 1) 1 [.string ⟨r.toArray⟩, .int .i64 st.l.length] := Sl.fresh w3 [.string ⟨r.toArray⟩, .int .i64 st.l.length] 77 1 rfl
              have CX := HC3.out.alloc (.cells #[.string ⟨r.toArray⟩, .int .i64 st.l.length] 77)
              have OX := HPX.out.m.chg0 CX
              have one : ∀ u ∈ [Value.string ⟨r.toArray⟩, .int .i64 st.l.length], u.oneCell' = true := by simp [Value.oneCell']
              have b1 : st.ls.length + 1 ≤ maxLen := by have := HP1.out.ls; unfold maxLen; omega
              have b2 : (st.ls.length + 1) * 24 ≤ 140737488355328 := by have := HP1.out.ls; omega
              obtain ⟨hj0, hjz0, hjz1, hjz2⟩ := HMI.out
              go_wp2_with (at_builtin; go_must (refine wpList_app rfl _ _ 74 rfl k0' _ 24 Tryz.underlying74 hj0 hjz0 hjz1 hjz2 rfl rfl OX _ 1 _ rfl SX one b1 b2 ?_))
              intro v8 w8 o8 g8 _
              obtain ⟨hPX8, C8⟩ := HPX.out.mark HH.out CX (by simp) o8 g8 (ls := st.ls ++ [(r, st.l.length)]) (by simp) (mC_app ..).symm st.js
              have HPX8 := Lib.hid hPX8
              have HC8 := Lib.hid (HC.out.step C8)
              have HN1 := Lib.hid (HP1.out.next HPK.out (HST2.out _) HLB.out)
              obtain ⟨p8, c8, rfl⟩ := o8.form
              clear SX CX OX one b1 b2 hj0 hjz0 hjz1 hjz2 o8 g8 hPX8 C8
              go_wp2_with fail
              go_roundg (nl - (k + 1))
              case measure => have := HK.out; omega
              case rel => exact ⟨k + 1, _, _, by have := HK.out; omega, by go_num, HN1.out, HPX8.out, HC8.out⟩
        · rw [decide_eq_false hc] at t0
          have HST : Hid (∀ n, stepF n st p = match lineP q with
              | some i => some ⟨st.l ++ [i], st.ls, st.js⟩
              | none => match namedP q with
                | some (x, nm) => some ⟨st.l ++ [x], st.ls, st.js ++ [(n, st.l.length, nm)]⟩
                | none => none) := Lib.hid fun n => by rw [step_line (r := r) (c := c) (by rw [HQP.out, HRC.out]) hc, ← HRC.out]; try rfl
          clear hc
          go_wp2_with fail
          with_reducible refine (rline_walk q _ (by have := HQN.out; omega)).mono ?_
          rintro e w3 ⟨rfl, C3⟩
          have HC3 := Lib.hid C3
          clear C3
          cases hlp : lineP q with
          | some i =>
            rw [hlp] at HST
            rw [lineV_some hlp]
            clear hlp
            have HBX : Hid (Blk (w3.alloc (.cells #[.int .i64 i.op, .int .i64 i.rd, .int .i64 i.rs, .int .i64 i.rt, .int .i64 i.im] 24)) w3.heap.size (ic i) 24) := Lib.hid (Blk.new w3 (ic i) 24)
            have HCX : Hid (Chg NoB wr (w3.alloc (.cells #[.int .i64 i.op, .int .i64 i.rd, .int .i64 i.rs, .int .i64 i.rt, .int .i64 i.im] 24))) := Lib.hid (HC3.out.alloc _)
            have z0 := HBX.out.cell' (i := 0) (v := .int .i64 i.op) rfl
            have z1 := HBX.out.cell' (i := 1) (v := .int .i64 i.rd) rfl
            have z2 := HBX.out.cell' (i := 2) (v := .int .i64 i.rs) rfl
            have z3 := HBX.out.cell' (i := 3) (v := .int .i64 i.rt) rfl
            have z4 := HBX.out.cell' (i := 4) (v := .int .i64 i.im) rfl
            have hbx := HBX.out.lt
            have SX : Sl (((w3.alloc (.cells #[.int .i64 i.op, .int .i64 i.rd, .int .i64 i.rs, .int .i64 i.rt, .int .i64 i.im] 24))).alloc (.cells #[.int .i64 i.op, .int .i64 i.rd, .int .i64 i.rs, .int .i64 i.rt, .int .i64 i.im] 24)) (fun k => k = ((w3.alloc (.cells #[.int .i64 i.op, .int .i64 i.rd, .int .i64 i.rs, .int .i64 i.rt, .int .i64 i.im] 24))).heap.size) 5 (.slice (some ⟨((w3.alloc (.cells #[.int .i64 i.op, .int .i64 i.rd, .int .i64 i.rs, .int .i64 i.rt, .int .i64 i.im] 24))).heap.size, 0, none⟩) 1 1) 1 [.int .i64 i.op, .int .i64 i.rd, .int .i64 i.rs, .int .i64 i.rt, .int .i64 i.im] := Sl.fresh ((w3.alloc (.cells #[.int .i64 i.op, .int .i64 i.rd, .int .i64 i.rs, .int .i64 i.rt, .int .i64 i.im] 24))) [.int .i64 i.op, .int .i64 i.rd, .int .i64 i.rs, .int .i64 i.rt, .int .i64 i.im] 24 1 rfl
            rw [show ((w3.alloc (.cells #[.int .i64 i.op, .int .i64 i.rd, .int .i64 i.rs, .int .i64 i.rt, .int .i64 i.im] 24))).heap.size = (w3.heap.size + 1) by simp] at SX
            have CX := HCX.out.alloc (.cells #[.int .i64 i.op, .int .i64 i.rd, .int .i64 i.rs, .int .i64 i.rt, .int .i64 i.im] 24)
            have OX := HPX.out.o.chg0 CX
            have one : ∀ u ∈ [Value.int .i64 i.op, .int .i64 i.rd, .int .i64 i.rs, .int .i64 i.rt, .int .i64 i.im], u.oneCell' = true := by simp [Value.oneCell']
            have b1 : st.l.length + 1 ≤ maxLen := by have := HP1.out.l; unfold maxLen; omega
            have b2 : (st.l.length + 1) * 40 ≤ 140737488355328 := by have := HP1.out.l; omega
            obtain ⟨j0, hj0, hjz0, hjz1, hjz2⟩ := info_parts INinfo
            go_wp2_with (at_builtin; go_must (refine wpList_app rfl _ _ 36 rfl j0 _ 40 Tryz.underlying36 hj0 hjz0 hjz1 hjz2 rfl rfl OX _ 1 _ rfl SX one b1 b2 ?_))
            intro v8 w8 o8 g8 _
            obtain ⟨hPX8, C8⟩ := HPX.out.ins HH.out CX (by simp) o8 g8 (l := st.l ++ [i]) (by simp) (iC_app ..).symm st.js
            have HPX8 := Lib.hid hPX8
            have HC8 := Lib.hid (HC.out.step C8)
            have HN1 := Lib.hid (HP1.out.next HPK.out (HST.out _) HLB.out)
            obtain ⟨p8, c8, rfl⟩ := o8.form
            clear SX CX OX one b1 b2 hj0 hjz0 hjz1 hjz2 o8 g8 hPX8 C8 z0 z1 z2 z3 z4 hbx
            go_wp2_with fail
            go_roundg (nl - (k + 1))
            case measure => have := HK.out; omega
            case rel => exact ⟨k + 1, _, _, by have := HK.out; omega, by go_num, HN1.out, HPX8.out, HC8.out⟩
          | none =>
            rw [hlp] at HST
            rw [lineV_none hlp]
            clear hlp
            have HBZ : Hid (Blk (w3.alloc (.cells #[.int .i64 0, .int .i64 0, .int .i64 0, .int .i64 0, .int .i64 0] 24)) w3.heap.size (ic ⟨0, 0, 0, 0, 0⟩) 24) := Lib.hid (Blk.new w3 (ic ⟨0, 0, 0, 0, 0⟩) 24)
            go_wp2_with fail
            with_reducible refine (rsplit_any q _ HQE.out (by have := HQN.out; omega)).mono ?_
            rintro e w4 ⟨rfl, C4⟩
            have HC4 : Hid (Chg NoB wr w4) := Lib.hid ((HC3.out.alloc _).step C4)
            have HB4 := Lib.hid (C4.blk0 HBZ.out)
            have hw34 : w3.heap.size < w4.heap.size := HB4.out.lt
            clear C4
            cases hnp : namedP q with
            | none =>
              rw [hnp] at HST
              clear hnp
              simp only [nmV]
              have HF2 : Hid (parseF s = ([], k + 1, false)) := Lib.hid (by rw [HP.out, HP1.out.bad HPK.out (HST.out _)]; rfl)
              go_wp2_with fail
              go_ret3
              refine ⟨_, rfl, ((HCW.out.step HC4.out).alloc _), .slice none 0 0, ?_, ?_⟩
              · rw [HF2.out]; exact congrArg (fun z : Int => Value.tuple #[.slice none 0 0, .int .i64 z, .bool false]) (show (k : Int) + 1 = ((k + 1 : Nat) : Int) by omega)
              · rw [HF2.out]; exact ⟨fun _ => True, Sl.nil ..⟩
            | some xn =>
              obtain ⟨x, nm⟩ := xn
              rw [hnp] at HST
              clear hnp
              simp only [nmV]
              have HB5 := Lib.hid (HB4.out.alloc (.cells #[.int .i64 x.op, .int .i64 x.rd, .int .i64 x.rs, .int .i64 x.rt, .int .i64 x.im] 24))
              have HX5 : Hid (Blk (w4.alloc (.cells #[.int .i64 x.op, .int .i64 x.rd, .int .i64 x.rs, .int .i64 x.rt, .int .i64 x.im] 24)) w4.heap.size (ic x) 24) := Lib.hid (Blk.new w4 (ic x) 24)
              have y0 := HX5.out.cell' (i := 0) (v := .int .i64 x.op) rfl
              have y1 := HX5.out.cell' (i := 1) (v := .int .i64 x.rd) rfl
              have y2 := HX5.out.cell' (i := 2) (v := .int .i64 x.rs) rfl
              have y3 := HX5.out.cell' (i := 3) (v := .int .i64 x.rt) rfl
              have y4 := HX5.out.cell' (i := 4) (v := .int .i64 x.im) rfl
              have u0 := HB5.out.cell' (i := 0) (v := .int .i64 0) rfl
              have u1 := HB5.out.cell' (i := 1) (v := .int .i64 0) rfl
              have u2 := HB5.out.cell' (i := 2) (v := .int .i64 0) rfl
              have u3 := HB5.out.cell' (i := 3) (v := .int .i64 0) rfl
              have u4 := HB5.out.cell' (i := 4) (v := .int .i64 0) rfl
              have f0 := HB5.out.frozen 0
              have f1 := HB5.out.frozen 1
              have f2 := HB5.out.frozen 2
              have f3 := HB5.out.frozen 3
              have f4 := HB5.out.frozen 4
              have hb5 := HB5.out.lt
              have hx5 := HX5.out.lt
              have HC5 := Lib.hid (HC4.out.alloc (.cells #[.int .i64 x.op, .int .i64 x.rd, .int .i64 x.rs, .int .i64 x.rt, .int .i64 x.im] 24))
              go_upto_region 18 with fail
              generalize w4.alloc (.cells #[.int .i64 x.op, .int .i64 x.rd, .int .i64 x.rs, .int .i64 x.rt, .int .i64 x.im] 24) = w5 at *
              go_upto_region 21 with fail
              have HBX : Hid (Blk (((((w5.setCell ⟨w3.heap.size, 0, none⟩ (.int .i64 x.op)).setCell ⟨w3.heap.size, 1, none⟩ (.int .i64 x.rd)).setCell ⟨w3.heap.size, 2, none⟩ (.int .i64 x.rs)).setCell ⟨w3.heap.size, 3, none⟩ (.int .i64 x.rt)).setCell ⟨w3.heap.size, 4, none⟩ (.int .i64 x.im)) w3.heap.size (ic x) 24) := Lib.hid (((((HB5.out.set 0 _).set 1 _).set 2 _).set 3 _).set 4 _)
              have HCX : Hid (Chg NoB wr (((((w5.setCell ⟨w3.heap.size, 0, none⟩ (.int .i64 x.op)).setCell ⟨w3.heap.size, 1, none⟩ (.int .i64 x.rd)).setCell ⟨w3.heap.size, 2, none⟩ (.int .i64 x.rs)).setCell ⟨w3.heap.size, 3, none⟩ (.int .i64 x.rt)).setCell ⟨w3.heap.size, 4, none⟩ (.int .i64 x.im))) := Lib.hid (((((HC5.out.setCell (.inr HC3.out.size) _).setCell (.inr HC3.out.size) _).setCell (.inr HC3.out.size) _).setCell (.inr HC3.out.size) _).setCell (.inr HC3.out.size) _)
              clear y0 y1 y2 y3 y4 u0 u1 u2 u3 u4 f0 f1 f2 f3 f4 hb5 hx5 HB5 HX5 HB4
              obtain ⟨w9, hw9⟩ : ∃ w9, (((((w5.setCell ⟨w3.heap.size, 0, none⟩ (.int .i64 x.op)).setCell ⟨w3.heap.size, 1, none⟩ (.int .i64 x.rd)).setCell ⟨w3.heap.size, 2, none⟩ (.int .i64 x.rs)).setCell ⟨w3.heap.size, 3, none⟩ (.int .i64 x.rt)).setCell ⟨w3.heap.size, 4, none⟩ (.int .i64 x.im)) = w9 := ⟨_, rfl⟩
              rw [hw9] at HBX HCX ⊢
              clear hw9
              have z0 := HBX.out.cell' (i := 0) (v := .int .i64 x.op) rfl
              have z1 := HBX.out.cell' (i := 1) (v := .int .i64 x.rd) rfl
              have z2 := HBX.out.cell' (i := 2) (v := .int .i64 x.rs) rfl
              have z3 := HBX.out.cell' (i := 3) (v := .int .i64 x.rt) rfl
              have z4 := HBX.out.cell' (i := 4) (v := .int .i64 x.im) rfl
              have hbx := HBX.out.lt
              have SX : Sl ((w9).alloc (.cells #[.int .i64 x.op, .int .i64 x.rd, .int .i64 x.rs, .int .i64 x.rt, .int .i64 x.im] 24)) (fun k => k = (w9).heap.size) 5 (.slice (some ⟨(w9).heap.size, 0, none⟩) 1 1) 1 [.int .i64 x.op, .int .i64 x.rd, .int .i64 x.rs, .int .i64 x.rt, .int .i64 x.im] := Sl.fresh (w9) [.int .i64 x.op, .int .i64 x.rd, .int .i64 x.rs, .int .i64 x.rt, .int .i64 x.im] 24 1 rfl
              rw [show (w9).heap.size = w9.heap.size by simp] at SX
              have CX := HCX.out.alloc (.cells #[.int .i64 x.op, .int .i64 x.rd, .int .i64 x.rs, .int .i64 x.rt, .int .i64 x.im] 24)
              have OX := HPX.out.o.chg0 CX
              have one : ∀ u ∈ [Value.int .i64 x.op, .int .i64 x.rd, .int .i64 x.rs, .int .i64 x.rt, .int .i64 x.im], u.oneCell' = true := by simp [Value.oneCell']
              have b1 : st.l.length + 1 ≤ maxLen := by have := HP1.out.l; unfold maxLen; omega
              have b2 : (st.l.length + 1) * 40 ≤ 140737488355328 := by have := HP1.out.l; omega
              obtain ⟨j0, hj0, hjz0, hjz1, hjz2⟩ := info_parts INinfo
              go_wp2_with (at_builtin; go_must (refine wpList_app rfl _ _ 36 rfl j0 _ 40 Tryz.underlying36 hj0 hjz0 hjz1 hjz2 rfl rfl OX _ 1 _ rfl SX one b1 b2 ?_))
              intro v8 w8 o8 g8 _
              obtain ⟨hPX8, C8⟩ := HPX.out.ins HH.out CX (by simp) o8 g8 (l := st.l ++ [x]) (by simp) (iC_app ..).symm (st.js ++ [(k + 1, st.l.length, nm)])
              have HPX8 := Lib.hid hPX8
              have HC8 := Lib.hid (HC.out.step C8)
              have HN1 := Lib.hid (HP1.out.next HPK.out (HST.out _) HLB.out)
              obtain ⟨p8, c8, rfl⟩ := o8.form
              clear SX CX OX one b1 b2 hj0 hjz0 hjz1 hjz2 o8 g8 hPX8 C8 z0 z1 z2 z3 z4 hbx
              go_wp2_with fail
              go_roundg (nl - (k + 1))
              case measure => have := HK.out; omega
              case rel => exact ⟨k + 1, _, _, by have := HK.out; omega, by go_num, HN1.out, HPX8.out, HC8.out⟩
    · obtain rfl : nl = k := by omega
      clear hlt
      have HRUN0 : Hid (runF 0 ⟨[], [], []⟩ Ls = .inl st) := Lib.hid (by
        have := HP1.out.run
        rw [List.drop_eq_nil_of_le (by rw [HNL2.out]; exact Nat.le_refl _)] at this
        exact this)
      obtain ⟨nf, hnf⟩ : ∃ nf, st.l.length = nf := ⟨_, rfl⟩
      have HNF := Lib.hid hnf
      have HMS := Lib.hid HPX.out.m.sl
      have HOO := Lib.hid HPX.out.o
      have hnfb : nf ≤ 60001 := by have := HP1.out.l; omega
      rw [hnf] at HOO ⊢
      clear hnf
      have HLS := Lib.hid HP1.out.ls
      have HJO := Lib.hid HP1.out.ok.2
      have HLL := Lib.hid HP1.out.l
      clear HPX HP1 HK
      go_wp2_with fail
      go_loopg [16, 93] nl (fun g av kv wx => ∃ (k : Nat) (sk : PSt) (c : List In) (J : List (Nat × Nat × Bs)), k + g = nl ∧ kv = .int .i64 k ∧ av = .int .i64 sk.l.length ∧ runF k sk (Ls.drop k) = .inl st ∧ st.js = sk.js ++ J ∧ c.length = nf ∧ linkF st.ls st.js st.l = linkF st.ls J c ∧
        Own wx (Tg t 1 w1.heap.size wr) 24 5 (.slice op nf oc) nf (iC c) ∧ Sl wx (Tg t 2 w1.heap.size wr) 2 (.slice mp st.ls.length mc) st.ls.length (mC st.ls) ∧ Chg (fun k => w1.heap.size ≤ k) w1 wx)
      case atStart => exact ⟨0, ⟨[], [], []⟩, st.l, st.js, Nat.zero_add _, rfl, rfl, HRUN0.out, rfl, HNF.out, rfl, HOO.out, HMS.out, HC.out⟩
      case round =>
        obtain ⟨k, sk, c, J, hk, rfl, rfl, hrun, hjs, hcl, hlink, hO, hS, hC⟩ := hrel
        rename World => wx
        have HK := Lib.hid hk
        have HRUN := Lib.hid hrun
        have HJS := Lib.hid hjs
        have HCL := Lib.hid hcl
        have HLK := Lib.hid hlink
        have HO := Lib.hid hO
        have HS := Lib.hid hS
        have HCX := Lib.hid hC
        have HHX : Hid (w1.heap.size ≤ wx.heap.size) := Lib.hid hC.size
        have HCW2 : Hid (Chg NoB w wx) := Lib.hid (HC1.out.trans hC fun k h1 h2 => by have := HC1.out.size; omega)
        have hkn : k ≤ nl := by omega
        have hk0 : (0 : Int) ≤ k := by omega
        have hsl : sk.l.length ≤ nf := by have := (runF_grow _ _ _ _ hrun).1; have := HNF.out; omega
        clear hk hrun hjs hcl hlink hO hS hC HCW HC HOO HMS
        by_cases hlt : k < nl
        · obtain ⟨p, hp⟩ : ∃ p, Ls[k]? = some p := ⟨_, List.getElem?_eq_getElem (by rw [HNL2.out]; exact hlt)⟩
          obtain ⟨q, hq⟩ : ∃ q, stripF p = q := ⟨_, rfl⟩
          have hqk : Qs[k]? = some q := by rw [← HQS.out, List.getElem?_map, hp, ← hq]; rfl
          obtain ⟨-, lp', lc', hle, -, hsp⟩ := HO1.out
          obtain ⟨g, off, hlp, hgS, hg, hcell⟩ := hsp (by omega)
          have x0 : wx.cell? ⟨g, off + k, none⟩ = some (.string ⟨q.toArray⟩) := HCX.out.cell (hcell k _ (by rw [List.getElem?_map, hqk]; rfl)) (fun h => absurd hg (Nat.not_lt.2 h))
          obtain ⟨rfl, rfl⟩ : lp = lp' ∧ lc = lc' := by
            simp only [Value.slice.injEq] at hle
            exact ⟨hle.1, hle.2.2⟩
          subst hlp
          have hgr : g < wx.heap.size := by have := HHX.out; omega
          have hdr : runF k sk (p :: Ls.drop (k + 1)) = .inl st := by
            obtain ⟨h1, h2⟩ := List.getElem?_eq_some_iff.1 hp
            rw [← HRUN.out, List.drop_eq_getElem_cons h1, h2]
          have HDR := Lib.hid hdr
          have HQP := Lib.hid hq
          have HQN : Hid (q.length ≤ 60000) := Lib.hid (by have := HQL.out q (List.mem_of_getElem? hqk); have := HSL.out; omega)
          have k1 : (k : Int) < nl := by omega
          have HNX : Hid (∀ s', stepF (k + 1) sk p = some s' → runF (k + 1) s' (Ls.drop (k + 1)) = .inl st) := Lib.hid fun s' h => by
            have := HDR.out
            rw [runF_cons, h] at this
            exact this
          have HNB : Hid (stepF (k + 1) sk p ≠ none) := Lib.hid fun h => by
            have := HDR.out
            rw [runF_cons, h] at this
            cases this
          clear hp hq hqk hle hsp hgS hg hcell hdr HRUN
          by_cases hqe : q = []
          · subst hqe
            have HN1 := Lib.hid (HNX.out _ (step_empty' HQP.out))
            go_wp2_with fail
            go_roundg (nl - (k + 1))
            case measure => have := HK.out; omega
            case rel => exact ⟨k + 1, sk, c, J, by have := HK.out; omega, by go_num, rfl, HN1.out, HJS.out, HCL.out, HLK.out, HO.out, HS.out, HCX.out⟩
          · obtain ⟨r, ch, hrc⟩ := snoc_of hqe
            have e1 := bl_list q
            have e2 : (q == ([] : Bs)) = false := by rw [beq_eq_false_iff_ne]; exact hqe
            have e3 : q.isEmpty = false := by rw [List.isEmpty_eq_false_iff]; exact hqe
            have hql : q.length = r.length + 1 := by rw [hrc]; simp
            have hcq : q[r.length]? = some ch := by rw [hrc]; simp
            have n1 : (q.length : Int) - 1 = r.length := by omega
            have hrl : r.length ≤ 60000 := by have := HQN.out; omega
            obtain ⟨hsz, hv⟩ := byte_at hcq
            have HRC := Lib.hid hrc
            have HQE := Lib.hid hqe
            have t0 : ((ch.toNat : Int) == 58) = decide (ch = 58) := byteD ch 58
            clear hrc hqe hcq
            by_cases hc : ch = 58
            · rw [decide_eq_true hc] at t0
              have hst := step_label (n := k + 1) (st := sk) (s := p) (r := r) (by rw [HQP.out, HRC.out, hc])
              have hst2 : stepF (k + 1) sk p = some ⟨sk.l, sk.ls ++ [(r, sk.l.length)], sk.js⟩ := by
                rw [hst]
                split
                · rename_i h; rw [if_pos h] at hst; exact absurd hst HNB.out
                · rfl
              have HN1 := Lib.hid (HNX.out _ hst2)
              clear hst hst2 hc
              go_wp2_with fail
              go_roundg (nl - (k + 1))
              case measure => have := HK.out; omega
              case rel => exact ⟨k + 1, ⟨sk.l, sk.ls ++ [(r, sk.l.length)], sk.js⟩, c, J, by have := HK.out; omega, by go_num, rfl, HN1.out, HJS.out, HCL.out, HLK.out, HO.out, HS.out, HCX.out⟩
            · rw [decide_eq_false hc] at t0
              have HST : Hid (∀ n, stepF n sk p = match lineP q with
                  | some i => some ⟨sk.l ++ [i], sk.ls, sk.js⟩
                  | none => match namedP q with
                    | some (x, nm) => some ⟨sk.l ++ [x], sk.ls, sk.js ++ [(n, sk.l.length, nm)]⟩
                    | none => none) := Lib.hid fun n => by rw [step_line (r := r) (c := ch) (by rw [HQP.out, HRC.out]) hc, ← HRC.out]; try rfl
              clear hc
              go_wp2_with fail
              with_reducible refine (rline_walk q _ (by have := HQN.out; omega)).mono ?_
              rintro e w3 ⟨rfl, C3⟩
              have HC3 := Lib.hid C3
              clear C3
              cases hlp : lineP q with
              | some i =>
                rw [hlp] at HST
                rw [lineV_some hlp]
                clear hlp
                have HN1 := Lib.hid (HNX.out _ (HST.out _))
                go_wp2_with fail
                go_roundg (nl - (k + 1))
                case measure => have := HK.out; omega
                case rel => exact ⟨k + 1, ⟨sk.l ++ [i], sk.ls, sk.js⟩, c, J, by have := HK.out; omega, by go_num, by rw [List.length_append]; go_num, HN1.out, HJS.out, HCL.out, HLK.out, HO.out.chg0 (HC3.out.alloc _), HS.out.chg0 (HC3.out.alloc _), HCX.out.then0 (HC3.out.alloc _)⟩
              | none =>
                rw [hlp] at HST
                rw [lineV_none hlp]
                clear hlp
                go_wp2_with fail
                with_reducible refine (rsplit_any q _ HQE.out (by have := HQN.out; omega)).mono ?_
                rintro e w4 ⟨rfl, C4⟩
                have HC4 : Hid (Chg NoB wx w4) := Lib.hid ((HC3.out.alloc _).step C4)
                clear C4
                cases hnp : namedP q with
                | none =>
                  rw [hnp] at HST
                  exact absurd (HST.out _) HNB.out
                | some xn =>
                  obtain ⟨x, nm⟩ := xn
                  rw [hnp] at HST
                  clear hnp
                  simp only [nmV]
                  have HN1 := Lib.hid (HNX.out _ (HST.out _))
                  obtain ⟨hng, J', hJ'⟩ := runF_grow _ _ _ _ HN1.out
                  have HJ := Lib.hid (js_rest HJS.out hJ')
                  have HJ2 := Lib.hid hJ'
                  have hat : sk.l.length < nf := by have := HNF.out; simp at hng; omega
                  have HC5 : Hid (Chg NoB wx (w4.alloc (.cells #[.int .i64 x.op, .int .i64 x.rd, .int .i64 x.rs, .int .i64 x.rt, .int .i64 x.im] 24))) := Lib.hid (HC4.out.alloc _)
                  have HS5 := Lib.hid (HS.out.chg0 HC5.out)
                  have HO5 := Lib.hid (HO.out.chg0 HC5.out)
                  clear hng hJ'
                  go_wp2_with fail
                  with_reducible refine (rfind_any _ _ st.ls nm _ HS5.out (by have := HLS.out; omega)).mono ?_
                  rintro e w6 ⟨rfl, C6⟩
                  have HC6 : Hid (Chg NoB wx w6) := Lib.hid (HC5.out.step C6)
                  have HS6 := Lib.hid (HS5.out.chg0 C6)
                  have HO6 := Lib.hid (HO5.out.chg0 C6)
                  clear C6
                  have a0 : (0 : Int) ≤ sk.l.length := by omega
                  have a1 : (sk.l.length : Int) < nf := by omega
                  obtain ⟨ni, hni⟩ : ∃ ni, sk.l.length = ni := ⟨_, rfl⟩
                  have HNI := Lib.hid hni
                  rw [hni] at a0 a1 hat HJ ⊢
                  have HLK2 : Hid (linkF st.ls st.js st.l = linkF st.ls ((k + 1, ni, nm) :: J') c) := Lib.hid (by rw [HLK.out, HJ.out]; rfl)
                  clear hni
                  cases hlk : lookL st.ls nm with
                  | none =>
                    have HFL := Lib.hid hlk
                    clear hlk
                    simp only [findV]
                    have HFN : Hid (linkF st.ls ((k + 1, ni, nm) :: J') c = .inr (k + 1)) := Lib.hid (by unfold linkF; rw [HFL.out])
                    have HF2 : Hid (parseF s = ([], k + 1, false)) := Lib.hid (by rw [HP.out, HRUN0.out]; show finF (linkF _ _ _) = _; rw [HLK2.out, HFN.out]; rfl)
                    go_wp2_with fail
                    go_ret3
                    refine ⟨_, rfl, (HCW2.out.step HC6.out), .slice none 0 0, ?_, ?_⟩
                    · rw [HF2.out]; exact congrArg (fun z : Int => Value.tuple #[.slice none 0 0, .int .i64 z, .bool false]) (show (k : Int) + 1 = ((k + 1 : Nat) : Int) by omega)
                    · rw [HF2.out]; exact ⟨fun _ => True, Sl.nil ..⟩
                  | some qn =>
                    obtain ⟨pq, hpm, hpq⟩ := lookL_mem hlk
                    have HFL := Lib.hid hlk
                    have hqb : qn ≤ 60001 := by have := HJO.out pq hpm; have := HNF.out; omega
                    clear hlk hpm hpq
                    simp only [findV]
                    have i3 : (0 : Int) ≤ qn := by omega
                    have i4 : decide ((qn : Int) < 0) = false := decide_eq_false (by omega)
                    have i5 : ¬ (qn : Int) < 0 := by omega
                    have i2 : (qn : Int) ≤ 60001 := by omega
                    obtain ⟨d, hd⟩ : ∃ d : Int, (qn : Int) - ni = d := ⟨_, rfl⟩
                    have HFQ : Hid (linkF st.ls ((k + 1, ni, nm) :: J') c = if d < -2048 ∨ 2048 ≤ d then .inr (k + 1) else linkF st.ls J' (setIm c ni d)) := Lib.hid (by rw [← hd]; exact link_some HFL.out)
                    obtain ⟨b1', q1⟩ : ∃ b, decide (d < -2048) = b := ⟨_, rfl⟩
                    obtain ⟨b2', q2⟩ : ∃ b, decide (2047 < d) = b := ⟨_, rfl⟩
                    have HFD : Hid (linkF st.ls ((k + 1, ni, nm) :: J') c = if b1' = true ∨ b2' = true then .inr (k + 1) else linkF st.ls J' (setIm c ni d)) := Lib.hid (by
                      rw [HFQ.out, ← q1, ← q2]; simp only [decide_eq_true_eq]
                      by_cases h1 : d < -2048
                      · rw [if_pos (.inl h1), if_pos (.inl h1)]
                      · by_cases h2 : 2047 < d
                        · rw [if_pos (.inr (by omega)), if_pos (.inr h2)]
                        · rw [if_neg (by omega), if_neg (by omega)])
                    clear HFQ
                    cases b1'
                    · cases b2'
                      · have HFS : Hid (linkF st.ls st.js st.l = linkF st.ls J' (setIm c ni d)) := Lib.hid (by rw [HLK2.out, HFD.out, if_neg (by simp)])
                        obtain ⟨gl, ol, cl, hle, hls, hll, hln, hlc, hlf⟩ := HO6.out.spot (by omega)
                        obtain ⟨rfl, rfl⟩ : op = some ⟨gl, ol, none⟩ ∧ oc = cl := by
                          simp only [Value.slice.injEq] at hle
                          exact ⟨hle.1, hle.2.2⟩
                        obtain ⟨io, hio⟩ : ∃ io, c[ni]? = some io := ⟨_, List.getElem?_eq_getElem (by rw [HCL.out]; exact hat)⟩
                        have hold := hlc _ _ ((iC_get hio (q := 4) (by omega)).trans rfl)
                        simp only [← Nat.add_assoc] at hold
                        have hfz := hlf (ol + ni * 5 + 4)
                        have HLSG := Lib.hid hls
                        clear hle hls hln hlc hlf hio
                        go_wp2_with fail
                        go_roundg (nl - (k + 1))
                        case measure => have := HK.out; omega
                        case rel =>
                          have C7 : Chg (fun k => k = gl) w6 (w6.setCell ⟨gl, ol + (ni * 5 + 4), none⟩ (.int .i64 d)) := (Chg.refl (fun k => k = gl) w6).setCell (a := ⟨gl, ol + (ni * 5 + 4), none⟩) (.inl rfl) _
                          have O7 := HO6.out.setAt (k := ni * 5 + 4) (by omega) (.int .i64 d)
                          rw [← iC_setIm _ _ _ (by rw [HCL.out]; exact hat)] at O7
                          have S7 := HS6.out.chg C7 fun k h e => by have h1 := HLSG.out.1; have h2 := h.1; rw [e] at h2; omega
                          have D7 := (HCX.out.then0 HC6.out).step (C7.mono (S' := fun k => w1.heap.size ≤ k) fun k _ e => by rw [e]; exact HLSG.out.2.1)
                          rw [← Nat.add_assoc] at O7 S7 D7
                          exact ⟨k + 1, _, setIm c ni d, J', by have := HK.out; omega, by go_num, by rw [List.length_append, HNI.out]; go_num, HN1.out, HJ2.out, by rw [setIm_len]; exact HCL.out, HFS.out, O7, S7, D7⟩
                      · have HFN : Hid (linkF st.ls ((k + 1, ni, nm) :: J') c = .inr (k + 1)) := Lib.hid (by rw [HFD.out, if_pos (.inr rfl)])
                        have HF2 : Hid (parseF s = ([], k + 1, false)) := Lib.hid (by rw [HP.out, HRUN0.out]; show finF (linkF _ _ _) = _; rw [HLK2.out, HFN.out]; rfl)
                        go_wp2_with fail
                        go_ret3
                        refine ⟨_, rfl, (HCW2.out.step HC6.out), .slice none 0 0, ?_, ?_⟩
                        · rw [HF2.out]; exact congrArg (fun z : Int => Value.tuple #[.slice none 0 0, .int .i64 z, .bool false]) (show (k : Int) + 1 = ((k + 1 : Nat) : Int) by omega)
                        · rw [HF2.out]; exact ⟨fun _ => True, Sl.nil ..⟩
                    · have HFN : Hid (linkF st.ls ((k + 1, ni, nm) :: J') c = .inr (k + 1)) := Lib.hid (by rw [HFD.out, if_pos (.inl rfl)])
                      have HF2 : Hid (parseF s = ([], k + 1, false)) := Lib.hid (by rw [HP.out, HRUN0.out]; show finF (linkF _ _ _) = _; rw [HLK2.out, HFN.out]; rfl)
                      go_wp2_with fail
                      go_ret3
                      refine ⟨_, rfl, (HCW2.out.step HC6.out), .slice none 0 0, ?_, ?_⟩
                      · rw [HF2.out]; exact congrArg (fun z : Int => Value.tuple #[.slice none 0 0, .int .i64 z, .bool false]) (show (k : Int) + 1 = ((k + 1 : Nat) : Int) by omega)
                      · rw [HF2.out]; exact ⟨fun _ => True, Sl.nil ..⟩
        · obtain rfl : nl = k := by omega
          have hrn := HRUN.out
          rw [List.drop_eq_nil_of_le (by rw [HNL2.out]; exact Nat.le_refl _)] at hrn
          obtain rfl : sk = st := Sum.inl.inj hrn
          have hJ0 : J = [] := by have := HJS.out; simpa using this.symm
          subst hJ0
          have HF : Hid (parseF s = finF (.inl c)) := Lib.hid (by rw [HP.out, HRUN0.out]; show finF (linkF _ _ _) = _; rw [HLK.out]; rfl)
          clear hrn hlt
          by_cases h16 : 16384 < nf
          · have HF2 : Hid (parseF s = ([], 0, false)) := Lib.hid (by rw [HF.out]; exact if_pos (by rw [HCL.out]; exact h16))
            have n0 : decide ((16384 : Int) < nf) = true := decide_eq_true (by omega)
            clear h16
            go_wp2_with fail
            go_ret3
            refine ⟨_, rfl, HCW2.out, .slice none 0 0, ?_, ?_⟩
            · rw [HF2.out]; rfl
            · rw [HF2.out]; exact ⟨fun _ => True, Sl.nil ..⟩
          · have HF2 : Hid (parseF s = (c, 0, true)) := Lib.hid (by rw [HF.out]; exact if_neg (by rw [HCL.out]; exact h16))
            have n0 : decide ((16384 : Int) < nf) = false := decide_eq_false (by omega)
            clear h16
            go_wp2_with fail
            go_ret3
            refine ⟨_, rfl, HCW2.out, .slice op nf oc, ?_, ?_⟩
            · rw [HF2.out]; rfl
            · rw [HF2.out]; exact ⟨_, by rw [HCL.out]; exact HO.out.sl⟩
end Go.Proofs.YtfidiiifcmmffaaGreatDoor
