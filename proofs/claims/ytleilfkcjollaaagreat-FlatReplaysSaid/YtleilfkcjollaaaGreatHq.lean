/- A flat machine of the adding program: an act, and an order that is played. No condition. -/
import Derived.Test.YtleilfkcjollaaaGreatHp
set_option linter.unusedVariables false
set_option linter.unusedSimpArgs false
namespace Go.Proofs.YtleilfkcjollaaaGreat
open Go.RowKit Go.RR
def stepF (q : List In) (c : Nat → Cor) (v : Nat) (i : Int) : Option ((Nat → Cor) × Nat × Bool) :=
  if 0 ≤ i ∧ i < 2 then
    if (c i.toNat).run = 0 then
      match atP q (c i.toNat).pc with
      | none => none
      | some ins => match stepA (c i.toNat) v ins with
        | none => none
        | some (c', v', d) => some (upd c i.toNat c', v', true)
    else some (c, v, false)
  else some (c, v, false)
/-- An order played: cores, the word, how many were done. -/
def playF (q : List In) : List Int → (Nat → Cor) → Nat → Nat → Option ((Nat → Cor) × Nat × Nat)
  | [], c, v, n => some (c, v, n)
  | i :: r, c, v, n => match stepF q c v i with
    | none => none
    | some (c', v', b) => playF q r c' v' (if b then n + 1 else n)
theorem stepA_did {c : Cor} {v : Nat} {i : In} {x : Cor × Nat × DidP} (h : stepA c v i = some x) : x.2.2.done = true ∧ ((x.2.2.addr < 1073741824 ∧ x.2.1 = v) ∨ (x.2.2.access = 2 ∧ x.2.2.addr = 1073741824 ∧ x.2.2.size = 8 ∧ x.2.2.new < 18446744073709551616 ∧ x.2.2.new = x.2.1)) := by
  unfold stepA at h
  split at h
  · cases h
    exact ⟨rfl, .inl ⟨by show (0 : Nat) < _; omega, rfl⟩⟩
  · split at h
    · cases h
      have e8 : ∀ x : Nat, cutF x 8 = x % 18446744073709551616 := fun x => by
        unfold cutF
        rw [if_pos (by decide)]
        rfl
      have et : turnF 33 (c.r i.rt.toNat) v = (v + c.r i.rt.toNat) % 18446744073709551616 := by
        unfold turnF
        rw [if_pos (.inr rfl)]
      refine ⟨rfl, .inr ⟨rfl, rfl, rfl, ?_, ?_⟩⟩
      · show cutF (turnF 33 (c.r i.rt.toNat) v) 8 < _
        rw [e8]
        omega
      · show cutF (turnF 33 (c.r i.rt.toNat) v) 8 = turnF 33 (c.r i.rt.toNat) v
        rw [e8, et]
        omega
    · cases h
set_option maxHeartbeats 1000000 in
theorem fDo_A {w : World} {S : Nat → Prop} {fm sh : Nat} {l : List (Nat × Nat)} (h : FmAt w S fm sh l) (hl : l.length = 2) {L : Nat → Pl} {s : Nat → Spc} {c : Nat → Cor} (hP : Parts w l L s c) (hSd : ∀ k, S k → k < w.heap.size ∧ ¬ InP l L k) {q : List In} (hq : ∀ i ∈ q, rightB i = true) {v : Nat} (hF : ∀ j, j < 2 → FS (s j) q v)
    (i : Int) (x : (Nat → Cor) × Nat × Bool) (hx : stepF q c v i = some x) :
    Calls Tryz.prog 72 #[.pointer (some ⟨fm, 0, none⟩), .int .i64 i, .int .i64 0] w (RetV fun r w' => ∃ (d : DidP) (L' : Nat → Pl) (s' : Nat → Spc), r = .tuple #[d.agg, .bool x.2.2] ∧ d.done = x.2.2 ∧ Parts w' l L' s' x.1 ∧ (∀ j, j < 2 → FS (s' j) q x.2.1) ∧ ExtP l L L' w.heap.size ∧ Chg (InP l L) w w') := by
  unfold stepF at hx
  split at hx
  · rename_i hi
    obtain ⟨k, rfl⟩ := Int.eq_ofNat_of_zero_le hi.1
    have hk : k < 2 := by omega
    rw [Int.toNat_natCast] at hx
    obtain ⟨p, hp⟩ : ∃ p, l[k]? = some p := ⟨l[k]'(by omega), List.getElem?_eq_getElem _⟩
    split at hx
    · rename_i hr
      cases hat : atP q (c k).pc with
      | none => rw [hat] at hx; cases hx
      | some ins =>
        rw [hat] at hx
        dsimp only at hx
        cases hst : stepA (c k) v ins with
        | none => rw [hst] at hx; cases hx
        | some y =>
          rw [hst] at hx
          obtain ⟨c', v', d⟩ := y
          cases hx
          obtain ⟨u', hT, hFu, hd, hX⟩ := try_A (hF k hk) hq hr hat hst
          have hdd := (stepA_did hst).2
          have hFs : ∀ j, j < 2 → FS (upd s k { s k with u := u' } j) q (if j = k then v' else v) := fun j hj => by
            by_cases e : j = k
            · subst e; rw [upd_at, if_pos rfl]; exact hFu
            · rw [upd_ne _ _ e, if_neg e]; exact hF j hj
          have hS := fDo_gen h (by omega) hP hp hr hX (d, c', u') hT hd (fun s'' => ∀ j, j < 2 → FS (s'' j) q v') (fun w' L' hP' hE hC => ?_)
          · refine hS.mono ?_
            rintro e w' ⟨rfl, L', s', h1, h2, h3, h4⟩
            exact ⟨_, rfl, d, L', s', rfl, hd, h1, h2, h3, h4⟩
          · have hfm' : FmAt w' S fm sh l := h.chg hC fun k hk => (hSd k hk).2
            rcases hdd with ⟨ha, hv⟩ | ⟨ha, hb, hs8, hn, hnv⟩
            · obtain ⟨done, ⟨op, rd, rs, rt, im⟩, pc, cause, access, addr, size, old, new⟩ := d
              refine (spread_low hfm' (by omega) (fun j r hj => ?_) done op rd rs rt im cause access size pc addr old new ha).mono ?_
              · exact ⟨L' j, _, (hP'.mc j r hj).1, (hP'.mc j r hj).2.sp⟩
              · rintro e w'' ⟨rfl, hc⟩
                refine ⟨rfl, L', _, hP'.chg0 hc, fun j hj => ?_, ExtP.refl _ _ _, hc.mono fun _ _ e => e.elim⟩
                have := hFs j hj
                have hv : v' = v := hv
                rw [hv] at this ⊢
                rwa [ite_self] at this
            · obtain ⟨done, ⟨op, rd, rs, rt, im⟩, pc, cause, access, addr, size, old, new⟩ := d
              have ha : access = 2 := ha
              have hb : addr = 1073741824 := hb
              have hs8 : size = 8 := hs8
              have hd : done = true := hd
              have hnv : new = v' := hnv
              have hn : new < 18446744073709551616 := hn
              subst ha hb hs8 hd
              have hlt : ∀ k, S k → k < w'.heap.size ∧ ¬ InP l L' k := fun k hk => ⟨Nat.lt_of_lt_of_le (hSd k hk).1 hC.size, fun e => by
                rcases hE.inP e with e | e
                · exact (hSd k hk).2 e
                · have := (hSd k hk).1; omega⟩
              refine (spread_in hfm' (by omega) hP' hlt (fun j r hj => ?_) op rd rs rt im cause pc old new hn).mono ?_
              · have hj2 : j < 2 := by rw [← hl]; exact (List.getElem?_eq_some_iff.1 hj).1
                exact (hFs j hj2).shp
              · rintro e w'' ⟨rfl, L'', s'', h1, h2, h3, h4⟩
                refine ⟨rfl, L'', s'', h1, fun j hj => ?_, h3, h4⟩
                obtain ⟨r, hr'⟩ : ∃ r, l[j]? = some r := ⟨l[j]'(by omega), List.getElem?_eq_getElem _⟩
                rw [h2 j r hr']
                have := store_A (hFs j hj) new
                rw [Nat.mod_eq_of_lt hn] at this
                have e : new = v' := hnv
                rw [← e]
                exact this
    · rename_i hr
      cases hx
      have hM := (hP.mc k p hp).2
      refine (fDo_stopped h hp hM.co hr 0).mono ?_
      rintro e w' ⟨rfl, hc⟩
      exact ⟨_, rfl, ⟨false, ⟨0, 0, 0, 0, 0⟩, 0, 0, 0, 0, 0, 0, 0⟩, L, s, rfl, rfl, hP.chg0 hc, hF, ExtP.refl _ _ _, hc.mono fun _ _ e => e.elim⟩
  · rename_i hi
    cases hx
    refine (fDo_absent h i (by omega) 0).mono ?_
    rintro e w' ⟨rfl, hc⟩
    exact ⟨_, rfl, ⟨false, ⟨0, 0, 0, 0, 0⟩, 0, 0, 0, 0, 0, 0, 0⟩, L, s, rfl, rfl, hP.chg0 hc, hF, ExtP.refl _ _ _, hc.mono fun _ _ e => e.elim⟩
set_option maxHeartbeats 2000000 in
set_option maxRecDepth 100000 in
theorem fPlay_any {w : World} {S So : Nat → Prop} {fm sh : Nat} {l : List (Nat × Nat)} (h : FmAt w S fm sh l) (hl : l.length = 2) {L : Nat → Pl} {s : Nat → Spc} {c : Nat → Cor} (hP : Parts w l L s c) (hSd : ∀ k, S k → k < w.heap.size ∧ ¬ InP l L k) {q : List In} (hq : ∀ i ∈ q, rightB i = true) {v : Nat} (hF : ∀ j, j < 2 → FS (s j) q v)
    (od : List Int) (ov : Value) (hov : Sl w So 1 ov od.length (od.map fun i => .int .i64 i)) (hol : od.length ≤ 1000) (hso : ∀ k, So k → k < w.heap.size ∧ ¬ InP l L k) (x : (Nat → Cor) × Nat × Nat) (hx : playF q od c v 0 = some x) :
    Calls Tryz.prog 37 #[.pointer (some ⟨fm, 0, none⟩), ov] w (RetW (.int .i64 x.2.2) fun w' => ∃ (L' : Nat → Pl) (s' : Nat → Spc), Parts w' l L' s' x.1 ∧ (∀ j, j < 2 → FS (s' j) q x.2.1) ∧ ExtP l L L' w.heap.size ∧ Chg (InP l L) w w') := by
  obtain ⟨op, oc, rfl⟩ := hov.form
  have H := Lib.hid h
  have HOV := Lib.hid hov
  have HSd := Lib.hid hSd
  have HSo := Lib.hid hso
  have HP := Lib.hid hP
  have HF := Lib.hid hF
  have HX := Lib.hid hx
  have HL := Lib.hid hl
  have HQ := Lib.hid hq
  clear h hov hSd hso hP hF hx hl hq
  go_enter Tryz.func37, Tryz.ntmps37
  go_wp2_with fail
  go_loopg [12, 5] od.length (fun k iv nv wr => ∃ (i n : Nat) (L' : Nat → Pl) (s' : Nat → Spc) (c' : Nat → Cor) (v' : Nat), iv = .int .i64 i ∧ nv = .int .i64 n ∧ i ≤ od.length ∧ n ≤ i ∧ k = od.length - i ∧ playF q (od.drop i) c' v' n = some x ∧ Parts wr l L' s' c' ∧ (∀ j, j < 2 → FS (s' j) q v') ∧ ExtP l L L' w.heap.size ∧ Chg (InP l L) w wr)
  case atStart => exact ⟨0, 0, L, s, c, v, rfl, rfl, by omega, by omega, by omega, HX.out, HP.out, HF.out, ExtP.refl _ _ _, Chg.refl _ _⟩
  case round =>
    obtain ⟨i, n, L', s', c', v', rfl, rfl, hin, hni, hk, hx, hPr, hFr, hEr, hC⟩ := hrel
    have HK := Lib.hid hk
    clear hk
    by_cases hi : i < od.length
    · have t1 : decide ((i : Int) < od.length) = true := decide_eq_true (by omega)
      have t2 : decide (i < od.length) = true := decide_eq_true hi
      have hFr' := H.out.chg hC fun k hk => (HSd.out k hk).2
      have hSlt : ∀ k, S k → k < wr.heap.size ∧ ¬ InP l L' k := fun k hk => ⟨Nat.lt_of_lt_of_le (HSd.out k hk).1 hC.size, fun e => by
        rcases hEr.inP e with e | e
        · exact (HSd.out k hk).2 e
        · have := (HSd.out k hk).1; omega⟩
      obtain ⟨gp, hgp⟩ : ∃ a, od[i]? = some a := ⟨od[i]'hi, List.getElem?_eq_getElem _⟩
      have hov' := (HOV.out.chg hC fun k hk => (HSo.out k hk).2)
      obtain ⟨-, p', cap', he, -, hcell⟩ := hov'
      cases he
      obtain ⟨g, off, rfl, hg, hgl, hc⟩ := hcell (by omega)
      have hci := hc i (.int .i64 gp) (by rw [List.getElem?_map, hgp]; rfl)
      have hst : playF q (od.drop i) c' v' n = match stepF q c' v' gp with
          | none => none
          | some (c', v', b) => playF q (od.drop (i + 1)) c' v' (if b then n + 1 else n) := by
        obtain ⟨hi', e⟩ := List.getElem?_eq_some_iff.1 hgp
        rw [List.drop_eq_getElem_cons hi', e]
        rfl
      rw [hst] at hx
      cases hsf : stepF q c' v' gp with
      | none => rw [hsf] at hx; cases hx
      | some y =>
        rw [hsf] at hx
        obtain ⟨c2, v2, b⟩ := y
        dsimp only at hx
        have HD := Lib.hid (fDo_A hFr' HL.out hPr hSlt HQ.out hFr gp _ hsf)
        have HXn := Lib.hid hx
        have HEr := Lib.hid hEr
        have HCr := Lib.hid hC
        clear hFr' hSlt hst hsf hx hPr hFr hEr hC hc hg hcell
        go_wp2_with fail
        refine HD.out.mono ?_
        rintro e w5 ⟨r, rfl, d, L5, s5, hrr, hdd, hP5, hF5, hE5, hC5⟩
        obtain ⟨done, ⟨o, rd, rs, rt, im⟩, pc, cause, access, addr, size, old, new⟩ := d
        have hdd : done = b := hdd
        subst hdd
        have hrr : r = .tuple #[.agg #[.bool done, .int .i64 o, .int .i64 rd, .int .i64 rs, .int .i64 rt, .int .i64 im, .int .u64 pc, .int .i64 cause, .int .i64 access, .int .u64 addr, .int .i64 size, .int .u64 old, .int .u64 new], .bool done] := hrr
        subst hrr
        have HP5 := Lib.hid hP5
        have HF5 := Lib.hid hF5
        have HE5 := Lib.hid (HEr.out.trans hE5 HCr.out.size)
        have HC5 := Lib.hid (HCr.out.trans hC5 fun k hk e => (HEr.out.inP e).elim id fun e => by omega)
        have w1 : wrap64 ((n : Int) + 1) = ((n + 1 : Nat) : Int) := by rw [IntWalk.wrap64_in _ (by omega)]; rfl
        clear hP5 hF5 hE5 hC5
        cases done with
        | true =>
          go_wp2_with fail
          go_roundg (od.length - (i + 1))
          case rel => exact ⟨i + 1, n + 1, L5, s5, c2, v2, by go_num, by go_num, by omega, by omega, rfl, HXn.out, HP5.out.chg0 ((Chg.refl NoB w5).alloc _), HF5.out, HE5.out, HC5.out.alloc _⟩
          case measure => rw [HK.out]; omega
        | false =>
          go_wp2_with fail
          go_roundg (od.length - (i + 1))
          case rel => exact ⟨i + 1, n, L5, s5, c2, v2, by go_num, rfl, by omega, by omega, rfl, HXn.out, HP5.out.chg0 ((Chg.refl NoB w5).alloc _), HF5.out, HE5.out, HC5.out.alloc _⟩
          case measure => rw [HK.out]; omega
    · have t1 : decide ((i : Int) < od.length) = false := decide_eq_false (by omega)
      have t2 : decide (i < od.length) = false := decide_eq_false hi
      obtain rfl : i = od.length := by omega
      rw [List.drop_length] at hx
      have hx : some (c', v', n) = some x := hx
      cases hx
      have HF2 := Lib.hid (And.intro hPr (And.intro hFr (And.intro hEr hC)))
      clear hPr hFr hEr hC
      go_wp2_with fail
      go_ret
      exact ⟨rfl, L', s', HF2.out⟩
end Go.Proofs.YtleilfkcjollaaaGreat
