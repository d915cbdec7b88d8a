/- A new flat machine of two nodes, one program. No condition. -/
import Derived.Test.YtleilfkcjollaaaGreatHo
set_option linter.unusedVariables false
set_option linter.unusedSimpArgs false
namespace Go.Proofs.YtleilfkcjollaaaGreat
open Go.RowKit Go.RR
theorem PARTi : (Tryz.prog.info? 159).map (fun i => (i.zero, i.size, i.bytes)) = some (some (.agg #[.pointer none, .pointer none]), 2, 16) := by kernel_rfl
theorem Parts.nil (w : World) (L : Nat → Pl) (s : Nat → Spc) (c : Nat → Cor) : Parts w [] L s c := ⟨fun j q h => by simp at h, fun j k q r x h => by simp at h⟩
theorem Parts.add {w w' : World} {l : List (Nat × Nat)} {L : Nat → Pl} {s : Nat → Spc} {c : Nat → Cor} (h : Parts w l L s c) {cb : Nat} {L' : Pl} {s' : Spc} {c' : Cor} (hM : Mc w' L' s' cb c') (hlo : ∀ k, Blks L' cb k → w.heap.size ≤ k) (hC : Chg NoB w w') :
    Parts w' (l ++ [(cb, L'.pb)]) (upd L l.length L') (upd s l.length s') (upd c l.length c') := by
  have hget : ∀ (j : Nat) (q : Nat × Nat), (l ++ [(cb, L'.pb)])[j]? = some q → (j ≠ l.length ∧ l[j]? = some q) ∨ (j = l.length ∧ q = (cb, L'.pb)) := by
    intro j q hj
    by_cases e : j < l.length
    · rw [List.getElem?_append_left e] at hj
      exact .inl ⟨by omega, hj⟩
    · rw [List.getElem?_append_right (by omega)] at hj
      by_cases e2 : j = l.length
      · subst e2
        rw [Nat.sub_self, List.getElem?_cons_zero] at hj
        exact .inr ⟨rfl, (Option.some.inj hj).symm⟩
      · rw [List.getElem?_eq_none (by simp; omega)] at hj
        cases hj
  refine ⟨fun j q hj => ?_, fun j k q r x hj hk h1 h2 => ?_⟩
  · rcases hget j q hj with ⟨e, hj⟩ | ⟨e, rfl⟩
    · rw [upd_ne _ _ e, upd_ne _ _ e, upd_ne _ _ e]
      exact ⟨(h.mc j q hj).1, (h.mc j q hj).2.chg0 hC⟩
    · rw [e, upd_at, upd_at, upd_at]
      exact ⟨rfl, hM⟩
  · rcases hget j q hj with ⟨e, hj⟩ | ⟨e, rfl⟩ <;> rcases hget k r hk with ⟨f, hk⟩ | ⟨f, rfl⟩
    · rw [upd_ne _ _ e] at h1
      rw [upd_ne _ _ f] at h2
      exact h.dj j k q r x hj hk h1 h2
    · rw [upd_ne _ _ e] at h1
      rw [f, upd_at] at h2
      have := h.lt x ⟨j, q, hj, h1⟩
      have := hlo x h2
      omega
    · rw [e, upd_at] at h1
      rw [upd_ne _ _ f] at h2
      have := h.lt x ⟨k, r, hk, h2⟩
      have := hlo x h1
      omega
    · omega
theorem inP_add {l : List (Nat × Nat)} {L : Nat → Pl} {cb pb : Nat} {L' : Pl} {k : Nat} (h : InP (l ++ [(cb, pb)]) (upd L l.length L') k) : InP l L k ∨ Blks L' cb k := by
  obtain ⟨j, q, hj, hb⟩ := h
  by_cases e : j < l.length
  · rw [List.getElem?_append_left e] at hj
    rw [upd_ne _ _ (by omega)] at hb
    exact .inl ⟨j, q, hj, hb⟩
  · rw [List.getElem?_append_right (by omega)] at hj
    by_cases e2 : j = l.length
    · subst e2
      rw [Nat.sub_self, List.getElem?_cons_zero] at hj
      cases hj
      rw [upd_at] at hb
      exact .inr hb
    · rw [List.getElem?_eq_none (by simp; omega)] at hj
      cases hj
theorem partC_app (l : List (Nat × Nat)) (c : Nat × Nat) : partC (l ++ [c]) = partC l ++ [.pointer (some ⟨c.1, 0, none⟩), .pointer (some ⟨c.2, 0, none⟩)] := by unfold partC; rw [List.flatMap_append]; rfl
theorem upd_const {α : Type} (x : α) (i : Nat) : upd (fun _ => x) i x = fun _ => x := funext fun j => by unfold upd; split <;> rfl
/-- While the machine is made: its parts so far. -/
structure FLay (b0 : Nat) (w : World) (fm : Nat) (v : Value) (l : List (Nat × Nat)) (L : Nat → Pl) (d : List Nat) : Prop where
  blk : Blk w fm #[v, .int .i64 1] 156
  own : Own w (fun k => b0 ≤ k ∧ ¬ InP l L k) 159 2 v l.length (partC l)
  ps : Parts w l L (fun _ => fsS d) (fun _ => Cor.new 65536)
  nf : ¬ InP l L fm
  lo : ∀ k, InP l L k → b0 ≤ k
  fl : b0 ≤ fm
theorem FLay.chg0 {b0 : Nat} {w w' : World} {fm : Nat} {v : Value} {l : List (Nat × Nat)} {L : Nat → Pl} {d : List Nat} (h : FLay b0 w fm v l L d) (c : Chg NoB w w') : FLay b0 w' fm v l L d :=
  ⟨c.blk0 h.blk, h.own.chg0 c, h.ps.chg0 c, h.nf, h.lo, h.fl⟩
theorem FLay.push {b0 : Nat} {w w1 w5 : World} {fm : Nat} {v v' : Value} {l : List (Nat × Nat)} {L : Nat → Pl} {d : List Nat} (h : FLay b0 w fm v l L d) (hb : b0 ≤ w.heap.size) {cb : Nat} {L' : Pl} (hM : Mc w1 L' (fsS d) cb (Cor.new 65536)) (hlo : ∀ k, Blks L' cb k → w.heap.size ≤ k) (hC : Chg NoB w w1)
    (ho : Own w5 (fun k => v.ownBlock = some k ∨ k = (w1.alloc (.cells #[.pointer (some ⟨cb, 0, none⟩), .pointer (some ⟨L'.pb, 0, none⟩)] 159)).heap.size) 159 2 v' (l.length + 1) (partC l ++ [.pointer (some ⟨cb, 0, none⟩), .pointer (some ⟨L'.pb, 0, none⟩)])) (hg : (w1.alloc (.cells #[.pointer (some ⟨cb, 0, none⟩), .pointer (some ⟨L'.pb, 0, none⟩)] 159)).grownBy w5 v.ownBlock) :
    Blk w5 fm #[v, .int .i64 1] 156 ∧ FLay b0 (w5.setCell ⟨fm, 0, none⟩ v') fm v' (l ++ [(cb, L'.pb)]) (upd L l.length L') d ∧ Chg (fun k => b0 ≤ k) w (w5.setCell ⟨fm, 0, none⟩ v') := by
  have ca : Chg NoB w1 (w1.alloc (.cells #[.pointer (some ⟨cb, 0, none⟩), .pointer (some ⟨L'.pb, 0, none⟩)] 159)) := (Chg.refl NoB w1).alloc _
  have C5 : Chg (fun k => v.ownBlock = some k) (w1.alloc (.cells #[.pointer (some ⟨cb, 0, none⟩), .pointer (some ⟨L'.pb, 0, none⟩)] 159)) w5 := grown_chg hg fun k hk => hk
  have hvo : ∀ k, v.ownBlock = some k → (b0 ≤ k ∧ ¬ InP l L k) ∧ k < w.heap.size := fun k hk => h.own.ownBlock k hk
  have hvb : ∀ k, v.ownBlock = some k → k ≠ fm := fun k hk e => by
    obtain ⟨cur, hb'⟩ := own_blk h.own hk
    rw [e] at hb'
    exact absurd (hb'.inj h.blk).2 (by decide)
  have hb5 := C5.blk (ca.blk0 (hC.blk0 h.blk)) fun e => hvb _ e rfl
  have CN : Chg (fun k => k = fm) w5 (w5.setCell ⟨fm, 0, none⟩ v') := (Chg.refl (fun k => k = fm) w5).setCell (a := ⟨fm, 0, none⟩) (.inl rfl) _
  have C16 : Chg (fun k => v.ownBlock = some k ∨ k = fm) w1 (w5.setCell ⟨fm, 0, none⟩ v') := ((ca.mono (S' := fun k => v.ownBlock = some k ∨ k = fm) fun _ _ e => e.elim).trans C5 fun k _ e => .inl e).trans CN fun k _ e => .inr e
  have hz := hC.size
  have hz5 : w1.heap.size + 1 ≤ w5.heap.size := by have := C5.size; rw [World.size_alloc] at this; exact this
  have hfw : fm < w.heap.size := h.blk.lt
  have hP1 := h.ps.add hM hlo hC
  rw [upd_const, upd_const] at hP1
  have hnew : ∀ k, InP (l ++ [(cb, L'.pb)]) (upd L l.length L') k → ¬ (v.ownBlock = some k ∨ k = fm) := by
    intro k hk e
    rcases inP_add hk with hk | hk
    · rcases e with e | e
      · exact (hvo k e).1.2 hk
      · exact h.nf (e ▸ hk)
    · have := hlo k hk
      rcases e with e | e
      · have := (hvo k e).2; omega
      · omega
  refine ⟨hb5, ⟨hb5.set 0 v', ?_, hP1.chg C16 hnew, fun e => hnew fm e (.inr rfl), fun k hk => ?_, h.fl⟩, ?_⟩
  · rw [partC_app]
    have ho' : Own w5 (fun k => v.ownBlock = some k ∨ k = (w1.alloc (.cells #[.pointer (some ⟨cb, 0, none⟩), .pointer (some ⟨L'.pb, 0, none⟩)] 159)).heap.size) 159 2 v' (l ++ [(cb, L'.pb)]).length (partC l ++ [.pointer (some ⟨cb, 0, none⟩), .pointer (some ⟨L'.pb, 0, none⟩)]) := by
      rw [List.length_append]
      exact ho
    refine (ho'.chg CN fun k hk e => ?_).mono fun k hk => ?_
    · have e : k = fm := e
      rcases hk with hk | hk
      · exact hvb k hk e
      · rw [World.size_alloc] at hk; omega
    · rcases hk with hk | hk
      · refine ⟨(hvo k hk).1.1, fun e => hnew k e (.inl hk)⟩
      · rw [World.size_alloc] at hk
        refine ⟨by omega, fun e => ?_⟩
        have := hP1.lt k e
        omega
  · rcases inP_add hk with hk | hk
    · exact h.lo k hk
    · exact Nat.le_trans hb (hlo k hk)
  · refine (hC.mono (S' := fun k => b0 ≤ k) fun _ _ e => e.elim).trans C16 fun k hk e => ?_
    rcases e with e | e
    · exact (hvo k e).1.1
    · exact e ▸ h.fl
set_option maxHeartbeats 4000000 in
set_option maxRecDepth 100000 in
theorem fNew_any {w : World} (q : List In) (hr : ∀ i ∈ q, rightB i = true) (hl : q.length ≤ 1000) (pv : Value) (Sp : Nat → Prop) (hpv : Sl w Sp 1 pv (progB q).length (bc (progB q))) (hsp : ∀ k, Sp k → k < w.heap.size) (cg co cc : Nat) (hc0 : w.cell? ⟨cg, co, none⟩ = some pv) (hc1 : w.cell? ⟨cg, co + 1, none⟩ = some pv) :
    Calls Tryz.prog 36 #[.agg (confC 2 1), .slice (some ⟨cg, co, none⟩) 2 cc] w (RetV fun v w' => ∃ (fm : Nat) (l : List (Nat × Nat)) (L : Nat → Pl) (S : Nat → Prop), v = .tuple #[.pointer (some ⟨fm, 0, none⟩), .int .i64 0] ∧ l.length = 2 ∧ FmAt w' S fm 1 l ∧ Parts w' l L (fun _ => fsS (progB q)) (fun _ => Cor.new 65536) ∧ (∀ k, S k → ¬ InP l L k) ∧ (∀ k, S k ∨ InP l L k → w.heap.size ≤ k) ∧ Chg NoB w w') := by
  have hdl : (progB q).length ≤ 4096 := by have := progB_len q; omega
  obtain ⟨hSet, hFS⟩ := fs_made hr hl
  obtain ⟨pp, pc, hpf⟩ := hpv.form
  subst hpf
  have HR : Hid (∀ w', Calls Tryz.prog 49 #[.agg (confC 2 1)] w' (RetW (.bool true) fun w'' => Chg NoB w' w'')) := Lib.hid fun w' => nright_any 2 1 (by omega) (by omega) (by omega) w'
  have HNN : Hid (∀ (i : Nat), i < 2 → ∀ w', Chg NoB w w' → Calls Tryz.prog 51 #[.int .i64 i, .agg #[.int .i64 2, .int .i64 1, .int .i64 1, .int .i64 2, .int .i64 2, .int .i64 2, .int .i64 2, .int .i64 3, .int .i64 12], .slice pp (progB q).length pc] w' _) := Lib.hid fun i hi w' k => ndNew_any (w := w') i 2 1 (.inl rfl) (by omega) (by omega) hi _ (progB q) Sp (hpv.chg0 k) (progB_lt q) hdl (fun j hj => Nat.lt_of_lt_of_le (hsp j hj) k.size)
  have HSet : Hid (∀ (w' : World) (L : Pl), SpAt w' L (ndSp 1 (progB q)) → Calls Tryz.prog 20 #[.pointer (some ⟨L.pb, 0, none⟩), .int .i64 0, .int .i64 2] w' (RetW (.int .i64 0) fun w'' => ∃ L' : Pl, Ext L L' w' ∧ SpAt w'' L' (fsS (progB q)) ∧ Chg L.All w' w'')) := Lib.hid fun w' L h => set_any h 0 2 hSet
  obtain ⟨d, hd⟩ : ∃ d, progB q = d := ⟨_, rfl⟩
  rw [hd] at HNN HSet hc0 hc1 ⊢
  generalize hdl2 : d.length = m at *
  have hB := Lib.hid (Blk.new w (confC 2 1) 28)
  have hC := Lib.hid ((Chg.refl NoB w).alloc (.cells (confC 2 1) 28))
  have HC0 := Lib.hid hc0
  have HC1 := Lib.hid hc1
  clear hd hpv hsp hdl hFS hSet hc0 hc1 hdl2
  go_enter Tryz.func36, Tryz.ntmps36
  go_upto_region 1 with fail
  generalize w.alloc (.cells (confC 2 1) 28) = w0 at *
  unfold confC at hB HR
  obtain ⟨cf, hcf⟩ : ∃ b, w.heap.size = b := ⟨_, rfl⟩
  rw [hcf] at hB
  simp only [hcf]
  have HW := Lib.hid hcf
  have g := hB.out.ever
  have gl := hB.out.everL
  have c0 := Chg.refl NoB w0
  clear hcf hB
  go_wp2_with fail
  with_reducible refine (HR.out _).mono ?_
  rintro e w1 ⟨rfl, C1⟩
  have g1 := g w1 C1
  have gl1 := gl w1 C1
  go_upto_region 4 with fail
  have hBF := Blk.new w1 #[.slice none 0 0, .int .i64 1] 156
  have ca : Chg NoB w1 (w1.alloc (.cells #[.slice none 0 0, .int .i64 1] 156)) := (Chg.refl NoB w1).alloc _
  obtain ⟨w2, hw2⟩ : ∃ x, w1.alloc (.cells #[.slice none 0 0, .int .i64 1] 156) = x := ⟨_, rfl⟩
  rw [hw2] at hBF ca
  simp only [hw2]
  obtain ⟨fm, hfm⟩ : ∃ x, w1.heap.size = x := ⟨_, rfl⟩
  rw [hfm] at hBF
  simp only [hfm]
  have HC02 := Lib.hid (C1.step ca)
  have HZ := Lib.hid (And.intro hC.out.size (And.intro C1.size (And.intro hfm ca.size)))
  have HL0 : Hid (FLay fm w2 fm (.slice none 0 0) [] (fun _ => ⟨0, 0, 0, 0, 0, 0, 0, 0, 0, fun _ => False, fun _ => False, fun _ => False, .bool false, .bool false⟩) d) := Lib.hid ⟨hBF, Own.nil _ _ _ _, Parts.nil _ _ _ _, fun e => by obtain ⟨j, q, hj, -⟩ := e; simp at hj, fun k e => by obtain ⟨j, q, hj, -⟩ := e; simp at hj, Nat.le_refl _⟩
  have g' : ∀ w', Chg NoB w0 w' → w'.cell? ⟨cf, 0, none⟩ = some (.int .i64 2) := fun w' c => g w' c 0
  have cr := HC02.out
  clear hBF ca hw2 hfm C1 g1 gl1 c0
  go_wp2_with fail
  clear cr
  go_loopg [28] 2 (fun k v wr => ∃ (i : Nat) (lv : Value) (l : List (Nat × Nat)) (L : Nat → Pl), v = .int .i64 i ∧ i ≤ 2 ∧ k = 2 - i ∧ l.length = i ∧ FLay fm wr fm lv l L d ∧ Chg NoB w0 wr)
  case atStart => exact ⟨0, _, _, _, rfl, by omega, by omega, rfl, HL0.out, HC02.out⟩
  case round =>
    obtain ⟨i, lv, l, L, rfl, hin, hk, hll, hL, cr⟩ := hrel
    have HK := Lib.hid hk
    have HL := Lib.hid hL
    have HLL := Lib.hid hll
    clear hk hll hL
    by_cases hi : i < 2
    · have t1 : decide ((i : Int) < 2) = true := decide_eq_true (by omega)
      have t2 : decide (i < 2) = true := decide_eq_true hi
      have hcw : Chg NoB w wr := hC.out.step cr
      have hci : wr.cell? ⟨cg, co + i, none⟩ = some (.slice pp m pc) := by
        rcases (by omega : i = 0 ∨ i = 1) with rfl | rfl
        · exact hcw.cell HC0.out id
        · exact hcw.cell HC1.out id
      have hcl : cg < wr.heap.size := World.block_lt_of_cell? wr _ hci
      have HNN1 := Lib.hid (HNN.out i hi wr hcw)
      have HCR := Lib.hid cr
      go_wp2_with fail
      with_reducible refine HNN1.out.mono ?_
      rintro e w3 ⟨v3, rfl, nb, hb, mb, kb, L1, rfl, hlo, hno, hN, hS, -, hCo, C3⟩
      have hS : SpAt w3 L1 (ndSp 1 d) := hS
      have HS := Lib.hid hS
      have HN := Lib.hid hN
      have HCo := Lib.hid hCo
      have HLo := Lib.hid hlo
      have HNo := Lib.hid hno
      have HC3 := Lib.hid C3
      have cr3 := cr.step C3
      clear hcw hci hcl hS hN hCo hlo hno C3 cr
      go_wp2_with fail
      have q1 : decide ((0 : Int) < 1) = true := rfl
      have q2 : decide ((1 : Int) < 1) = false := rfl
      clear cr3
      go_loopg [51] 1 (fun k v wx => (k = 1 ∧ v = .int .i64 0 ∧ wx = w3) ∨ (k = 0 ∧ v = .int .i64 1 ∧ ∃ L', Ext L1 L' w3 ∧ SpAt wx L' (fsS d) ∧ Chg L1.All w3 wx))
      case atStart => exact .inl ⟨rfl, rfl, rfl⟩
      case round =>
        have g6 : ∀ w', Chg NoB w0 w' → cf < w'.heap.size := fun w' c => gl w' c
        rcases hrel with ⟨hk0, rfl, hwx⟩ | ⟨hk0, rfl, L', hE, hS', hC'⟩
        · rename World => wx
          subst hwx
          have HK0 := Lib.hid hk0
          clear hk0
          have HNS := Lib.hid (nSpace_at HN.out)
          have HS1 := Lib.hid (HSet.out _ L1 HS.out)
          go_wp2_with fail
          refine HNS.out.mono ?_
          rintro e w9 ⟨rfl, hw⟩
          subst hw
          go_wp2_with fail
          refine HS1.out.mono ?_
          rintro e w9 ⟨rfl, L', hE, hS', hC'⟩
          have HX := Lib.hid (And.intro hE (And.intro hS' hC'))
          clear hE hS' hC'
          go_wp2_with fail
          go_roundg 0
          case rel => exact .inr ⟨rfl, rfl, L', HX.out.1, HX.out.2.1, HX.out.2.2⟩
          case measure => rw [HK0.out]; omega
        · rename World => wx
          have C35 : Chg NoB wr wx := HC3.out.trans hC' fun b hb' e => by have := HLo.out.2.2.2 b e; omega
          have hLb : ∀ k, L'.All k → L1.All k ∨ w3.heap.size ≤ k := hE.2.2
          have hkb : ¬ L'.All kb := fun e => (hLb kb e).elim HNo.out.2.2.1 fun e => by have := HCo.out.blk.lt; omega
          have hMc : Mc wx L' (fsS d) kb (Cor.new 65536) := ⟨hS', HCo.out.chg hC' HNo.out.2.2.1, hkb⟩
          have hNx := HN.out.chg hC' fun k hk => hk.2.1
          have hpb : L'.pb = L1.pb := hE.1
          have HNC := Lib.hid fun w' (k : Chg NoB wx w') => nCore_at (hNx.chg k fun _ _ => id)
          have HNS := Lib.hid fun w' (k : Chg NoB wx w') => nSpace_at (hNx.chg k fun _ _ => id)
          have HMc := Lib.hid hMc
          have HPB := Lib.hid hpb
          have HLoX : Hid (∀ k, Blks L' kb k → wr.heap.size ≤ k) := Lib.hid fun k hk => by
            rcases hk with hk | hk
            · rw [hk]; exact HLo.out.2.2.1
            · rcases hLb k hk with hk | hk
              · exact HLo.out.2.2.2 k hk
              · exact Nat.le_trans HC3.out.size hk
          have HC35 := Lib.hid C35
          have fB := HL.out.blk
          have fO := HL.out.own
          obtain ⟨xp, xc, hx⟩ := fO.form
          subst hx
          have c0x := HCR.out.step C35
          clear hE hS' hC' C35 hLb hkb hMc hNx hpb hk0
          go_upto_region 18 with fail
          have hvb : ¬ (Value.slice xp l.length xc).ownBlock = some fm := fun e => by
            obtain ⟨cur, hb'⟩ := own_blk fO e
            exact absurd (hb'.inj fB).2 (by decide)
          have hBx := HC35.out.blk0 fB
          have gf : ∀ w', Chg (fun k => (Value.slice xp l.length xc).ownBlock = some k) wx w' → ∀ i, w'.cell? ⟨fm, i, none⟩ = #[.slice xp l.length xc, .int .i64 1][i]? := fun w' k i => (k.blk hBx hvb).cell i
          have gfl : ∀ w', Chg (fun k => (Value.slice xp l.length xc).ownBlock = some k) wx w' → fm < w'.heap.size := fun w' k => (k.blk hBx hvb).lt
          have cc := Chg.refl NoB wx
          have cv := Chg.refl (fun k => (Value.slice xp l.length xc).ownBlock = some k) wx
          have HPush : Hid (∀ w9, Chg NoB wx w9 → ∀ v' w5, Own w5 (fun k => (Value.slice xp l.length xc).ownBlock = some k ∨ k = (w9.alloc (.cells #[.pointer (some ⟨kb, 0, none⟩), .pointer (some ⟨L1.pb, 0, none⟩)] 159)).heap.size) 159 2 v' (l.length + 1) (partC l ++ [Value.pointer (some ⟨kb, 0, none⟩), Value.pointer (some ⟨L1.pb, 0, none⟩)]) → (w9.alloc (.cells #[.pointer (some ⟨kb, 0, none⟩), .pointer (some ⟨L1.pb, 0, none⟩)] 159)).grownBy w5 (Value.slice xp l.length xc).ownBlock →
              Blk w5 fm #[.slice xp l.length xc, .int .i64 1] 156 ∧ FLay fm (w5.setCell ⟨fm, 0, none⟩ v') fm v' (l ++ [(kb, L1.pb)]) (upd L l.length L') d ∧ Chg (fun k => fm ≤ k) wr (w5.setCell ⟨fm, 0, none⟩ v')) := Lib.hid fun w9 k v' w5 ho hg => by
            have hp := HPB.out
            rw [← hp] at ho hg ⊢
            exact HL.out.push (by have := HL.out.blk.lt; omega) (HMc.out.chg0 k) HLoX.out (HC35.out.step k) ho hg
          have oX : Hid (Own (wx.alloc (.cells #[.pointer (some ⟨kb, 0, none⟩), .pointer (some ⟨L1.pb, 0, none⟩)] 159)).drew _ 159 2 (.slice xp l.length xc) l.length (partC l)) := Lib.hid ((fO.chg0 (HC35.out.step cc.drew)).chg0 ((Chg.refl NoB wx.drew).alloc (.cells #[.pointer (some ⟨kb, 0, none⟩), .pointer (some ⟨L1.pb, 0, none⟩)] 159)))
          have sX : Hid (Sl (wx.alloc (.cells #[.pointer (some ⟨kb, 0, none⟩), .pointer (some ⟨L1.pb, 0, none⟩)] 159)).drew (fun k => k = wx.heap.size) 2 (.slice (some ⟨wx.heap.size, 0, none⟩) 1 1) 1 [.pointer (some ⟨kb, 0, none⟩), .pointer (some ⟨L1.pb, 0, none⟩)]) := Lib.hid (Sl.fresh wx.drew [.pointer (some ⟨kb, 0, none⟩), .pointer (some ⟨L1.pb, 0, none⟩)] 159 1 (size := 2) rfl)
          have HP2 := Lib.hid (HPush.out wx.drew cc.drew)
          obtain ⟨i0, hi0, hz0, hz1, hz2⟩ := info_parts PARTi
          have one : ∀ u ∈ [Value.pointer (some ⟨kb, 0, none⟩), Value.pointer (some ⟨L1.pb, 0, none⟩)], u.oneCell' = true := by simp [Value.oneCell']
          have hll := HLL.out
          have b1 : l.length + 1 ≤ maxLen := by unfold maxLen; omega
          have b2 : (l.length + 1) * 16 ≤ 140737488355328 := by omega
          clear c0x fB fO HPush hll hvb hBx
          refine wp_region_mix 14 [(true, 0), (true, 1), (true, 2), (true, 3), (true, 4), (true, 5), (true, 7), (false, 6), (false, 8), (true, 9), (false, 10), (false, 11), (true, 12), (true, 13)] (fun w' => Chg (fun k => (Value.slice xp l.length xc).ownBlock = some k) wx w') (by kernel_rfl) (by kernel_rfl) (fun _ _ _ _ _ h => h) (cv.drew) ?_
          simp only [pickMix_nil, pickMix_cons, Option.getD_some, List.getElem?_toArray, List.getElem?_cons_zero, List.getElem?_cons_succ, List.cons_append, List.nil_append, List.drop_succ_cons, List.drop_zero]
          iterate 7
           refine wpMix_take rfl ?_
           apply Exists.intro
           refine ⟨fun wS hS => ?_, ?_⟩
           · try dsimp only at hS
             have cS := hS
             go_simp
             try rfl
           simp only [Act.put, List.setIfInBounds_toArray, List.set_cons_zero, List.set_cons_succ]
          refine wpMix_force rfl (fun K hK => ?_)
          go_simp
          refine (HNC.out _ cc.drew).mono ?_
          rintro e w9 ⟨rfl, hw⟩
          subst hw
          refine hK _ _ cv.drew ?_
          clear hK K
          refine wpMix_force rfl (fun K hK => ?_)
          go_simp
          refine (HNS.out _ cc.drew).mono ?_
          rintro e w9 ⟨rfl, hw⟩
          subst hw
          refine hK _ _ cv.drew ?_
          clear hK K
          refine wpMix_take rfl ?_
          apply Exists.intro
          refine ⟨fun wS hS => ?_, ?_⟩
          · try dsimp only at hS
            have cS := hS
            go_simp
            try rfl
          simp only [Act.put, List.setIfInBounds_toArray, List.set_cons_zero, List.set_cons_succ]
          refine wpMix_force rfl (fun K hK => ?_)
          go_simp
          refine hK _ _ (cv.drew.alloc _) ?_
          clear hK K
          refine wpMix_force rfl (fun K hK => ?_)
          refine opwp_app (v := .slice xp l.length xc) _ _ 154 rfl i0 _ 16 Tryz.underlying154 hi0 hz0 hz1 hz2 rfl (by rfl) oX.out _ 1 _ (by rfl) sX.out one b1 b2 ?_
          intro v' w5 ho5 hg5 hn5
          have cg5 := grown_chg (S := fun k => (Value.slice xp l.length xc).ownBlock = some k) hg5 fun k hk => hk
          have c5 : Chg (fun k => (Value.slice xp l.length xc).ownBlock = some k) wx w5 := (cv.alloc (.cells #[.pointer (some ⟨kb, 0, none⟩), .pointer (some ⟨L1.pb, 0, none⟩)] 159)).drew.step cg5
          refine hK _ _ c5 ?_
          clear hK K
          iterate 2
           refine wpMix_take rfl ?_
           apply Exists.intro
           refine ⟨fun wS hS => ?_, ?_⟩
           · try dsimp only at hS
             have cS := hS
             go_simp
             try rfl
           simp only [Act.put, List.setIfInBounds_toArray, List.set_cons_zero, List.set_cons_succ]
          refine wpMix_nil ?_
          have hP := HP2.out v' w5 ho5 hg5
          have k0 := hP.1.cell' (i := 0) (v := .slice xp l.length xc) rfl
          have kz := hP.1.frozen 0
          have kl := hP.1.lt
          obtain ⟨yp, yc, hy⟩ := ho5.form
          subst hy
          have HPs := Lib.hid hP.2
          clear hi0 hz0 hz1 hz2 one b1 b2 ho5 hg5 hn5 hP oX sX HP2 cg5 c5 cc cv gf gfl
          go_wp2_with fail
          go_roundg (2 - (i + 1))
          case rel => exact ⟨i + 1, _, _, _, by go_num, by omega, rfl, by rw [List.length_append, HLL.out]; rfl, HPs.out.1, HCR.out.trans HPs.out.2 fun b hb' e => by have := HZ.out; omega⟩
          case measure => rw [HK.out]; omega
    · have t1 : decide ((i : Int) < 2) = false := decide_eq_false (by omega)
      have t2 : decide (i < 2) = false := decide_eq_false hi
      obtain rfl : i = 2 := by omega
      have HCR := Lib.hid cr
      clear cr
      go_wp2_with fail
      go_ret2
      refine ⟨_, rfl, fm, l, L, fun k => (fm ≤ k ∧ ¬ InP l L k), rfl, HLL.out, ⟨⟨Nat.le_refl _, HL.out.nf⟩, lv, HL.out.blk, HL.out.own.sl⟩, HL.out.ps, fun k hk => hk.2, fun k hk => ?_, hC.out.step HCR.out⟩
      have hz := HZ.out
      have hzw := HW.out
      rcases hk with hk | hk
      · omega
      · have := HL.out.lo k hk
        omega
end Go.Proofs.YtleilfkcjollaaaGreat
