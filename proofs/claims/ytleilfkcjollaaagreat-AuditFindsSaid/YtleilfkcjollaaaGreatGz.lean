/- Spaces: bytes of code are laid. No condition. Spaces: a page's bytes. No condition. Instructions by words: Get; sizes, signs. No condition. The unit: swap. No condition. -/
import Derived.Test.YtleilfkcjollaaaGreatGy
import Derived.Test.YtleilfkcjollaaaGreatGe
import Derived.Test.YtleilfkcjollaaaGreatGs
import Derived.Test.YtleilfkcjollaaaGreatGd
set_option linter.unusedVariables false
set_option linter.unusedSimpArgs false
namespace Go.Proofs.YtleilfkcjollaaaGreat
open Go.RowKit Go.RR
theorem SpAt.remem {w w' : World} {L : Pl} {s : Spc} (h : SpAt w L s) {b : By} (hm : MemAt w' (Grow L.SM w) L.mb b s.u.fr) (c : Chg L.SM w w') : SpAt w' (L.grow w w') { s with u := { s.u with b := b } } ∧ Chg L.All w w' :=
  h.retab (h.tab.store hm c) (c.mono fun _ _ e => .inl e)
/-- Where a byte of code lies. -/
def codeAt (s : Spc) (k : Nat) : Nat := s.code.getD (k / 4096) 0 * 4096 + k % 4096
theorem codeF_step (s : Spc) (a c : Nat) (l : List Nat) (b : By) : codeF s a (c :: l) b = codeF s (a + 1) l (putW b (codeAt s a) 1 c) := rfl
theorem codeF_snoc (s : Spc) (c : Nat) : ∀ (l : List Nat) (a : Nat) (b : By), codeF s a (l ++ [c]) b = putW (codeF s a l b) (codeAt s (a + l.length)) 1 c
  | [], a, b => by show putW b (codeAt s a) 1 c = putW b (codeAt s (a + 0)) 1 c; rw [Nat.add_zero]
  | x :: l, a, b => by
    show codeF s (a + 1) (l ++ [c]) _ = putW (codeF s (a + 1) l _) (codeAt s (a + (l.length + 1))) 1 c
    rw [codeF_snoc s c l (a + 1) _, show a + 1 + l.length = a + (l.length + 1) by omega]
set_option maxHeartbeats 2000000 in
set_option maxRecDepth 100000 in
theorem code_any {w : World} {L : Pl} {s : Spc} (h : SpAt w L s) (v : Value) (d : List Nat) (Sd : Nat → Prop) (hv : Sl w Sd 1 v d.length (d.map fun x : Nat => .int .u8 x)) (hsd : ∀ k, Sd k → ¬ L.All k ∧ k < w.heap.size) (hd : ∀ x ∈ d, x < 256) (hn : d.length ≤ s.code.length * 4096) (hcl : s.code.length ≤ 16) (hcf : ∀ f ∈ s.code, f < s.u.fr) :
    Calls Tryz.prog 85 #[.pointer (some ⟨L.pb, 0, none⟩), .int .i64 0, v] w (RetW (.int .i64 0) fun w' => ∃ L' : Pl, Ext L L' w ∧ SpAt w' L' { s with u := { s.u with b := codeF s 0 d s.u.b } } ∧ Chg L.All w w') := by
  obtain ⟨vp, vc, hvf⟩ := hv.form
  subst hvf
  have H := Lib.hid h
  have HV := Lib.hid hv
  have HSD := Lib.hid hsd
  have HD := Lib.hid hd
  have HCF := Lib.hid hcf
  have HFR := Lib.hid h.tab.fr
  obtain ⟨cp, cc, hcv⟩ := h.code.form
  obtain ⟨n, hnn⟩ : ∃ n, d.length = n := ⟨_, rfl⟩
  obtain ⟨m, hm⟩ : ∃ m, s.code.length = m := ⟨_, rfl⟩
  rw [hnn, hm] at hn
  rw [hm] at hcl hcv
  rw [hnn] at HV ⊢
  have HN := Lib.hid hnn
  have HM := Lib.hid hm
  have HCV := Lib.hid hcv
  have f8 : w.cell? ⟨L.pb, 8, none⟩ = some (.slice cp m cc) := by rw [← hcv]; exact h.blk.cell' rfl
  have fl := h.blk.lt
  have t1 : decide ((m : Int) * 4096 < 0) = false := decide_eq_false (by omega)
  have t2 : decide ((m : Int) * 4096 < n) = false := decide_eq_false (by omega)
  have t4 : decide (m * 4096 < n) = false := decide_eq_false (by omega)
  clear h hv hsd hd hcf hcv hnn hm
  go_enter Tryz.func85, Tryz.ntmps85
  go_wp2_with fail
  clear f8 fl t1 t2 t4
  go_loopg [41] n (fun q x wr => ∃ (k : Nat) (L' : Pl), x = .int .i64 k ∧ k ≤ n ∧ q = n - k ∧ Ext L L' w ∧ SpAt wr L' { s with u := { s.u with b := codeF s 0 (d.take k) s.u.b } } ∧ Chg L.All w wr)
  case atStart => exact ⟨0, L, rfl, by omega, by omega, Ext.refl _ _, H.out, Chg.refl _ _⟩
  case round =>
    obtain ⟨k, L', rfl, hkn, hq, hE, hS, hC⟩ := hrel
    have HQ := Lib.hid hq
    have HE := Lib.hid hE
    have HS := Lib.hid hS
    have HC := Lib.hid hC
    by_cases hk : k < n
    · have t1 : decide (k < n) = true := decide_eq_true hk
      have hkd : k < d.length := by rw [HN.out]; exact hk
      obtain ⟨c, hc⟩ : ∃ c, d[k]? = some c := ⟨d[k], List.getElem?_eq_getElem hkd⟩
      have hc256 := HD.out c (List.mem_of_getElem? hc)
      obtain ⟨-, p', c', he, -, hp'⟩ := HV.out.chg hC fun j hj => (HSD.out j hj).1
      obtain ⟨g, off, hg, -, hgl, hcell⟩ := hp' (by omega)
      cases he
      subst hg
      have v0 : wr.cell? ⟨g, off + k, none⟩ = some (.int .u8 c) := hcell k _ (by rw [List.getElem?_map, hc]; rfl)
      obtain ⟨j, hj⟩ : ∃ j, k / 4096 = j := ⟨_, rfl⟩
      obtain ⟨r, hr⟩ : ∃ r, k % 4096 = r := ⟨_, rfl⟩
      have hjm : j < m := by omega
      have ck : (k : Int) / 4096 = (j : Int) := by omega
      have cm : (k : Int) % 4096 = (r : Int) := by omega
      obtain ⟨f, hf⟩ : ∃ f, s.code[j]? = some f := ⟨s.code[j]'(by rw [HM.out]; exact hjm), List.getElem?_eq_getElem _⟩
      have hff := HCF.out f (List.mem_of_getElem? hf)
      have hfr := HFR.out
      have hcode := hS.code
      obtain ⟨-, p2, c2, he2, hle2, hp2⟩ := hcode
      obtain ⟨g2, off2, hg2, -, hgl2, hcell2⟩ := hp2 (by show 0 < s.code.length; rw [HM.out]; omega)
      have w0 : wr.cell? ⟨g2, off2 + j, none⟩ = some (.int .i64 f) := hcell2 j _ (by show (ints s.code)[j]? = _; unfold ints; rw [List.getElem?_map, hf]; rfl)
      have hb := hS.blk
      rw [hE.1, he2, hg2] at hb
      have b3 : wr.cell? ⟨L.pb, 3, none⟩ = some (.pointer (some ⟨L'.mb, 0, none⟩)) := hb.cell' rfl
      have b8 : wr.cell? ⟨L.pb, 8, none⟩ = some (.slice (some ⟨g2, off2, none⟩) m c2) := by rw [← HM.out]; exact hb.cell' rfl
      have bl := hb.lt
      have hat : codeAt s k = f * 4096 + r := by unfold codeAt; rw [hj, hr, List.getD_eq_getElem?_getD, hf]; rfl
      have hst := fun (w' : World) (cw : Chg NoB wr w') => Store_any (hS.chg0 cw).mu.mem (f * 4096 + r) 1 c (by omega) hS.mu.fr (by omega) (by unfold alignedB; rw [show sizeB ((1 : Nat) : Int) = true from rfl]; exact decide_eq_true (Nat.mod_one _)) (by show (f * 4096 + r) / 4096 < s.u.fr; omega)
      have HAT : Hid (codeF s 0 (d.take (k + 1)) s.u.b = putW (codeF s 0 (d.take k) s.u.b) (f * 4096 + r) 1 c) := Lib.hid (by
        rw [List.take_add_one, hc]
        show codeF s 0 (d.take k ++ [c]) s.u.b = _
        rw [codeF_snoc, Nat.zero_add, List.length_take, Nat.min_eq_left (Nat.le_of_lt hkd), hat])
      simp only [show ((f * 4096 + r : Nat) : Int) = (f : Int) * 4096 + (r : Int) by omega, Int.natCast_one] at hst
      have HSt := Lib.hid hst
      have h1 : (f : Int) ≤ 1048576 := by omega
      have h2 : (r : Int) < 4096 := by omega
      have h3 : (c : Int) < 256 := by omega
      have q1 : ((f : Int) * 4096 + (r : Int)) % 18446744073709551616 = (f : Int) * 4096 + (r : Int) := by omega
      have q2 : (c : Int) % 18446744073709551616 = (c : Int) := by omega
      have jj : (j : Int) ≤ 100 := by omega
      have jw : IntKind.i64.wrap (j : Int) = (j : Int) := IntWalk.i64_in _ (by omega)
      have jm : (j : Int) < (m : Int) := by omega
      have j0 : (0 : Int) ≤ (j : Int) := by omega
      have jn : (j : Int).toNat = j := Int.toNat_natCast j
      clear hq hE hS hC hkd hc hcell hp' hj hr hf hff hcell2 hp2 hle2 he2 hg2 hb hat hst
      go_upto_region 9 with fail
      have S0 : Chg NoB wr wr := Chg.refl _ _
      have g3 : ∀ w', Chg NoB wr w' → w'.cell? ⟨L.pb, 3, none⟩ = some (.pointer (some ⟨L'.mb, 0, none⟩)) := fun w' c => c.cell b3 id
      have g8 : ∀ w', Chg NoB wr w' → w'.cell? ⟨L.pb, 8, none⟩ = some (.slice (some ⟨g2, off2, none⟩) m c2) := fun w' c => c.cell b8 id
      have gw : ∀ w', Chg NoB wr w' → w'.cell? ⟨g2, off2 + j, none⟩ = some (.int .i64 f) := fun w' c => c.cell w0 id
      refine wp_region_mix 19 [(true, 0), (true, 1), (true, 2), (true, 3), (true, 4), (true, 5), (true, 6), (true, 7), (true, 8), (true, 9), (true, 10), (true, 11), (true, 12), (true, 13), (true, 14), (true, 15), (true, 16), (true, 17), (true, 18)] (fun w' => Chg NoB wr w') (by kernel_rfl) (by kernel_rfl) (fun _ _ _ _ _ h => h) (S0.drew) ?_
      simp only [pickMix_nil, pickMix_cons, Option.getD_some, List.getElem?_toArray, List.getElem?_cons_zero, List.getElem?_cons_succ, List.cons_append, List.nil_append, List.drop_succ_cons, List.drop_zero]
      iterate 19
       refine wpMix_take rfl ?_
       apply Exists.intro
       refine ⟨fun wS hS => ?_, ?_⟩
       · try dsimp only at hS
         have cS := hS
         go_simp
         try rfl
       simp only [Act.put, List.setIfInBounds_toArray, List.set_cons_zero, List.set_cons_succ]
      refine wpMix_nil ?_
      go_wp2_with fail
      have cS := S0.drew
      refine (HSt.out _ cS).mono ?_
      rintro e w5 ⟨rfl, hm5, c5⟩
      obtain ⟨hS5, hC5⟩ := (HS.out.chg0 cS).remem hm5 c5
      have HX : Hid (∃ L2 : Pl, Ext L L2 w ∧ SpAt w5 L2 { s with u := { s.u with b := codeF s 0 (d.take (k + 1)) s.u.b } } ∧ Chg L.All w w5) := Lib.hid (by
        rw [HAT.out]
        exact ⟨_, HE.out.trans (Ext.grow L' _ w5) (Nat.le_trans HC.out.size cS.size), hS5, HE.out.chg HC.out ((cS.mono (S' := L'.All) fun _ _ e => e.elim).step hC5)⟩)
      clear hm5 c5 hS5 hC5 g3 g8 gw S0 cS
      go_wp2_with fail
      go_roundg (n - (k + 1))
      · obtain ⟨L2, x1, x2, x3⟩ := HX.out
        exact ⟨k + 1, L2, by first | rfl | (congr 1), by omega, rfl, x1, x2, x3⟩
      · have := HQ.out; omega
    · have t1 : decide (k < n) = false := decide_eq_false hk
      have HX : Hid (codeF s 0 (d.take k) s.u.b = codeF s 0 d s.u.b) := Lib.hid (by rw [List.take_of_length_le (by rw [HN.out]; omega)])
      clear hq hE hS hC
      go_wp2_with fail
      go_ret
      exact ⟨rfl, L', HE.out, by rw [← HX.out]; exact HS.out, HC.out⟩
end Go.Proofs.YtleilfkcjollaaaGreat
set_option linter.unusedVariables false
set_option linter.unusedSimpArgs false
namespace Go.Proofs.YtleilfkcjollaaaGreat
open Go.RowKit Go.RR
/-- A page's bytes. -/
def dataF (s : Spc) (p : Int) : By := match frameOf s p with | some f => pgF s.u.b f | none => fun _ => 0
set_option maxHeartbeats 1000000 in
set_option maxRecDepth 100000 in
theorem data_any {w : World} {L : Pl} {s : Spc} (h : SpAt w L s) (p : Int) (hp : 0 ≤ p) (hp2 : p < s.shape.shared) (hfr : ∀ f, frameOf s p = some f → f < s.u.fr) :
    Calls Tryz.prog 29 #[.pointer (some ⟨L.pb, 0, none⟩), .int .i64 p] w (RetV fun v w' => Own w' (fun k => w.heap.size ≤ k) 5 1 v 4096 (bcells (dataF s p) 4096) ∧ Chg NoB w w') := by
  have HT := Lib.hid (sThere_any h p hp hp2)
  have f3 := h.blk.cell' (i := 3) (v := .pointer (some ⟨L.mb, 0, none⟩)) rfl
  have f10 := h.blk.cell' (i := 10) (v := .map (some L.xb)) rfl
  have fl := h.blk.lt
  obtain ⟨i0, hi0, hz0, hz1, hz2⟩ := info_parts INTi
  have hl := run_look2 (P := Tryz.prog) Tryz.underlying118 Tryz.underlying3 hi0 hz0 h.sh p
  rw [shm_look] at hl
  have H := Lib.hid h
  cases hf : frameOf s p with
  | none =>
    rw [show (s.shared.find? fun x => x.1 == p).map (·.2) = none from hf] at hl
    simp only [Option.map_none, Option.getD_none, Option.isSome_none] at hl
    have HD : Hid (dataF s p = fun _ => 0) := Lib.hid (by unfold dataF; rw [hf])
    clear h hp hp2 hfr hi0 hz0 hz1 hz2 hf
    go_enter Tryz.func29, Tryz.ntmps29
    go_wp2_with fail
    refine HT.out.mono ?_
    rintro e w1 ⟨rfl, rfl⟩
    have mk := mk4096
    go_wp2_with fail
    go_ret
    have ho := Own.fresh (size := 1) w1 (bcells (fun _ => 0) 4096) 5 4096 (by rw [bcells_len]) (by decide)
    exact ⟨_, rfl, by rw [HD.out]; exact ho.mono fun k (e : k = _) => by omega, (Chg.refl NoB w1).alloc _⟩
  | some f =>
    rw [show (s.shared.find? fun x => x.1 == p).map (·.2) = some f from hf] at hl
    simp only [Option.map_some, Option.getD_some, Option.isSome_some] at hl
    have HD : Hid (dataF s p = pgF s.u.b f) := Lib.hid (by unfold dataF; rw [hf])
    have HP := Lib.hid (page_any h.mu.mem f (hfr f hf))
    clear h hp hp2 hfr hi0 hz0 hz1 hz2 hf
    go_enter Tryz.func29, Tryz.ntmps29
    go_wp2_with fail
    refine HT.out.mono ?_
    rintro e w1 ⟨rfl, rfl⟩
    go_wp2_with fail
    refine HP.out.mono ?_
    rintro e w1 ⟨r, rfl, v, rfl, hO, hC⟩
    have HO := Lib.hid hO
    have HC := Lib.hid hC
    clear hO hC f3 f10 fl hl
    go_wp2_with fail
    go_ret
    exact ⟨_, rfl, by rw [HD.out]; exact HO.out, HC.out⟩
end Go.Proofs.YtleilfkcjollaaaGreat
set_option linter.unusedVariables false
set_option linter.unusedSimpArgs false
namespace Go.Proofs.YtleilfkcjollaaaGreat
open Go.RowKit Go.RR
def In.agg (i : In) : Value := .agg #[.int .i64 i.op, .int .i64 i.rd, .int .i64 i.rs, .int .i64 i.rt, .int .i64 i.im]
end Go.Proofs.YtleilfkcjollaaaGreat
set_option linter.unusedVariables false
set_option linter.unusedSimpArgs false
namespace Go.Proofs.YtleilfkcjollaaaGreat
open Go.RowKit Go.RR
/-- What turns the old word into the new one. -/
structure Turns (w : World) (S : Nat → Prop) (g : Nat) (lb : Array Value) (turn : Nat → Nat) : Prop where
  call : ∀ w', Chg S w w' → ∀ x, x < 18446744073709551616 → Calls Tryz.prog g (#[] ++ #[.int .u64 x] ++ lb) w' (RetW (.int .u64 (turn x)) fun w'' => w'' = w')
  lt : ∀ x, x < 18446744073709551616 → turn x < 18446744073709551616
  enter : ∀ args w, (callFunc g args).run Tryz.prog w = .ok (.enter g args) w
theorem MemAt.ok {w : World} {S : Nat → Prop} {mb : Nat} {b : By} {fr : Nat} (h : MemAt w S mb b fr) : ByOk b := by
  obtain ⟨mp, m, h1, h2, h3, h4, h5, h6⟩ := h
  exact h6.ok
theorem MuAt.chg {w w' : World} {SM SB S : Nat → Prop} {ub mb bb : Nat} {u : Mu} (h : MuAt w SM SB ub mb bb u) (c : Chg S w w') (hu : ¬ S ub) (hm : ∀ k, SM k → ¬ S k) (hb : ∀ k, SB k → ¬ S k) : MuAt w' SM SB ub mb bb u :=
  ⟨c.blk h.blk hu, h.mem.chg c hm, h.tlb.chg c hb, h.on, h.asid, h.mode, h.root, h.fr, h.n1, h.n2, h.n3, fun k hk => Nat.lt_of_lt_of_le (h.n4 k hk) c.size⟩
theorem MuAt.chg0 {w w' : World} {SM SB : Nat → Prop} {ub mb bb : Nat} {u : Mu} (h : MuAt w SM SB ub mb bb u) (c : Chg NoB w w') : MuAt w' SM SB ub mb bb u := h.chg c id (fun _ _ => id) fun _ _ => id
end Go.Proofs.YtleilfkcjollaaaGreat
