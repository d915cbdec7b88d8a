/- Facts replayed, by the program. No condition. -/
import Derived.Test.YtleilfkcjollaaaGreatHr
import Derived.Test.YtleilfkcjollaaaGreatGe
import Derived.Test.YtleilfkcjollaaaGreatGw
import Derived.Test.YtleilfkcjollaaaGreatGd
set_option linter.unusedVariables false
set_option linter.unusedSimpArgs false
namespace Go.Proofs.YtleilfkcjollaaaGreat
open Go.RowKit Go.RR
structure FactP where
  step : Int
  node : Int
  page : Int
  d : DidP
def FactP.vs (f : FactP) : List Value := [.int .i64 f.step, .int .i64 f.node, .int .i64 f.page, .bool f.d.done, .int .i64 f.d.inst.op, .int .i64 f.d.inst.rd, .int .i64 f.d.inst.rs, .int .i64 f.d.inst.rt, .int .i64 f.d.inst.im, .int .u64 f.d.pc, .int .i64 f.d.cause, .int .i64 f.d.access, .int .u64 f.d.addr, .int .i64 f.d.size, .int .u64 f.d.old, .int .u64 f.d.new]
def fcells (l : List FactP) : List Value := l.flatMap FactP.vs
theorem fcells_get : ∀ (l : List FactP) (i j : Nat) (f : FactP), l[i]? = some f → j < 16 → (fcells l)[i * 16 + j]? = f.vs[j]?
  | [], i, j, f, h, _ => by simp at h
  | x :: l, 0, j, f, h, hj => by
    simp only [List.getElem?_cons_zero, Option.some.injEq] at h
    subst h
    unfold fcells
    rw [List.flatMap_cons, List.getElem?_append_left (by show 0 * 16 + j < 16; omega), show 0 * 16 + j = j by omega]
  | x :: l, i + 1, j, f, h, hj => by
    rw [List.getElem?_cons_succ] at h
    have ih := fcells_get l i j f h hj
    unfold fcells at ih ⊢
    rw [List.flatMap_cons, List.getElem?_append_right (by show 16 ≤ _; omega)]
    show (l.flatMap FactP.vs)[(i + 1) * 16 + j - 16]? = _
    rw [show (i + 1) * 16 + j - 16 = i * 16 + j by omega]
    exact ih
/-- Bounds of a fact's numbers. -/
structure FactP.Ok (f : FactP) : Prop where
  addr : f.d.addr < 18446744073709551616
  old : f.d.old < 18446744073709551616
  new : f.d.new < 18446744073709551616
def okD (g : Nat → Nat) (d : DidP) : Bool := d.done && (sizeB d.size && (!tellB d.access d.inst.op || getW (ldM g d.addr) 0 d.size.toNat == d.old))
def nextD (g : Nat → Nat) (d : DidP) : Nat → Nat := if d.access = 2 then stM g d.addr d.new d.size.toNat else g
def replayF : (Nat → Nat) → List FactP → Nat → Nat × Bool
  | _, [], k => (k, true)
  | g, f :: r, k => if okD g f.d then replayF (nextD g f.d) r (k + 1) else (k, false)
theorem replayF_step {g : Nat → Nat} {l : List FactP} {i : Nat} {f : FactP} (h : l[i]? = some f) (k : Nat) : replayF g (l.drop i) k = if okD g f.d then replayF (nextD g f.d) (l.drop (i + 1)) (k + 1) else (k, false) := by
  obtain ⟨hi, rfl⟩ := List.getElem?_eq_some_iff.1 h
  rw [List.drop_eq_getElem_cons hi]
  rfl
theorem nextD_ok {g : Nat → Nat} (h : ∀ x, g x < 256) (d : DidP) : ∀ x, nextD g d x < 256 := by
  unfold nextD
  split
  · exact stM_ok h _ _ _
  · exact h
set_option maxHeartbeats 4000000 in
set_option maxRecDepth 100000 in
theorem replay_any {w : World} (l : List FactP) (S : Nat → Prop) (v : Value) (hs : Sl w S 16 v l.length (fcells l)) (hl : l.length ≤ 100000) (hok : ∀ f ∈ l, f.Ok) :
    Calls Tryz.prog 14 #[v] w (RetW (.tuple #[.int .i64 (replayF (fun _ => 0) l 0).1, .bool (replayF (fun _ => 0) l 0).2]) fun w' => Chg NoB w w') := by
  obtain ⟨vp, vc, hvf⟩ := hs.form
  subst hvf
  obtain ⟨R, hR⟩ : ∃ R, replayF (fun _ => 0) l 0 = R := ⟨_, rfl⟩
  rw [hR]
  have HR := Lib.hid hR
  have HS := Lib.hid hs
  have HO := Lib.hid hok
  obtain ⟨n, hn⟩ : ∃ n, l.length = n := ⟨_, rfl⟩
  rw [hn] at hl HS
  simp only [hn]
  have HN := Lib.hid hn
  have hmm := @run_makeMap Tryz.prog
  have HM0 : Hid (MemM (w.alloc (.map #[] 0)) w.heap.size (fun _ => 0)) := Lib.hid ⟨[], ⟨#[], 0, at_top rfl, rfl⟩, fun x => rfl⟩
  have HC0 := Lib.hid ((Chg.refl NoB w).alloc (.map #[] 0))
  clear hs hok hR hn
  go_enter Tryz.func14, Tryz.ntmps14
  go_wp2_with fail
  generalize w.alloc (.map #[] 0) = w0 at *
  obtain ⟨mb, hmb⟩ : ∃ b, w.heap.size = b := ⟨_, rfl⟩
  rw [hmb] at HM0
  simp only [hmb]
  have HMB := Lib.hid hmb
  clear hmb hmm
  go_loopg [11] n (fun k v wr => ∃ (i : Nat) (g : Nat → Nat), v = .int .i64 i ∧ i ≤ n ∧ k = n - i ∧ MemM wr mb g ∧ (∀ x, g x < 256) ∧ replayF g (l.drop i) i = R ∧ Chg (fun k => k = mb) w0 wr)
  case atStart => exact ⟨0, _, rfl, by omega, by omega, HM0.out, fun _ => by show 0 < 256; omega, HR.out, Chg.refl _ _⟩
  case round =>
    obtain ⟨i, g, rfl, hin, hk, hM, hg, hRi, hC⟩ := hrel
    have HK := Lib.hid hk
    have HM := Lib.hid hM
    have HG := Lib.hid hg
    have HRi := Lib.hid hRi
    have HC := Lib.hid hC
    clear hk hM hg hRi
    by_cases hi : i < n
    · have t1 : decide ((i : Int) < n) = true := decide_eq_true (by omega)
      have t2 : decide (i < n) = true := decide_eq_true hi
      obtain ⟨f, hf⟩ : ∃ f, l[i]? = some f := ⟨l[i]'(by rw [HN.out]; exact hi), List.getElem?_eq_getElem _⟩
      have HSt := Lib.hid (replayF_step (g := g) hf i)
      have HFo := Lib.hid (HO.out f (List.mem_of_getElem? hf))
      obtain ⟨-, p, c, hv, hnc, hr⟩ := HS.out
      cases hv
      obtain ⟨gb, off, rfl, hgS, hgl, hcell⟩ := hr (by omega)
      have hmg : mb ≠ gb := by have := HMB.out; omega
      have hx : ∀ j, j < 16 → ∀ u, f.vs[j]? = some u → wr.cell? ⟨gb, off + (i * 16 + j), none⟩ = some u := fun j hj u hu => HC.out.cell ((HC0.out.cell (hcell (i * 16 + j) u ((fcells_get l i j f hf hj).trans hu)) id)) (fun e => hmg e.symm)
      obtain ⟨step, node, page, ⟨done, ⟨op, rd, rs, rt, im⟩, pc, cause, access, addr, size, old, new⟩⟩ := f
      have x0 : wr.cell? ⟨gb, off + i * 16, none⟩ = some (.int .i64 step) := (congrArg (fun o => wr.cell? ⟨gb, o, none⟩) (by omega)).trans (hx 0 (by decide) _ rfl)
      have x1 : wr.cell? ⟨gb, off + i * 16 + 1, none⟩ = some (.int .i64 node) := (congrArg (fun o => wr.cell? ⟨gb, o, none⟩) (by omega)).trans (hx 1 (by decide) _ rfl)
      have x2 : wr.cell? ⟨gb, off + i * 16 + 2, none⟩ = some (.int .i64 page) := (congrArg (fun o => wr.cell? ⟨gb, o, none⟩) (by omega)).trans (hx 2 (by decide) _ rfl)
      have x3 : wr.cell? ⟨gb, off + i * 16 + 3, none⟩ = some (.bool done) := (congrArg (fun o => wr.cell? ⟨gb, o, none⟩) (by omega)).trans (hx 3 (by decide) _ rfl)
      have x4 : wr.cell? ⟨gb, off + i * 16 + 4, none⟩ = some (.int .i64 op) := (congrArg (fun o => wr.cell? ⟨gb, o, none⟩) (by omega)).trans (hx 4 (by decide) _ rfl)
      have x5 : wr.cell? ⟨gb, off + i * 16 + 5, none⟩ = some (.int .i64 rd) := (congrArg (fun o => wr.cell? ⟨gb, o, none⟩) (by omega)).trans (hx 5 (by decide) _ rfl)
      have x6 : wr.cell? ⟨gb, off + i * 16 + 6, none⟩ = some (.int .i64 rs) := (congrArg (fun o => wr.cell? ⟨gb, o, none⟩) (by omega)).trans (hx 6 (by decide) _ rfl)
      have x7 : wr.cell? ⟨gb, off + i * 16 + 7, none⟩ = some (.int .i64 rt) := (congrArg (fun o => wr.cell? ⟨gb, o, none⟩) (by omega)).trans (hx 7 (by decide) _ rfl)
      have x8 : wr.cell? ⟨gb, off + i * 16 + 8, none⟩ = some (.int .i64 im) := (congrArg (fun o => wr.cell? ⟨gb, o, none⟩) (by omega)).trans (hx 8 (by decide) _ rfl)
      have x9 : wr.cell? ⟨gb, off + i * 16 + 9, none⟩ = some (.int .u64 pc) := (congrArg (fun o => wr.cell? ⟨gb, o, none⟩) (by omega)).trans (hx 9 (by decide) _ rfl)
      have x10 : wr.cell? ⟨gb, off + i * 16 + 10, none⟩ = some (.int .i64 cause) := (congrArg (fun o => wr.cell? ⟨gb, o, none⟩) (by omega)).trans (hx 10 (by decide) _ rfl)
      have x11 : wr.cell? ⟨gb, off + i * 16 + 11, none⟩ = some (.int .i64 access) := (congrArg (fun o => wr.cell? ⟨gb, o, none⟩) (by omega)).trans (hx 11 (by decide) _ rfl)
      have x12 : wr.cell? ⟨gb, off + i * 16 + 12, none⟩ = some (.int .u64 addr) := (congrArg (fun o => wr.cell? ⟨gb, o, none⟩) (by omega)).trans (hx 12 (by decide) _ rfl)
      have x13 : wr.cell? ⟨gb, off + i * 16 + 13, none⟩ = some (.int .i64 size) := (congrArg (fun o => wr.cell? ⟨gb, o, none⟩) (by omega)).trans (hx 13 (by decide) _ rfl)
      have x14 : wr.cell? ⟨gb, off + i * 16 + 14, none⟩ = some (.int .u64 old) := (congrArg (fun o => wr.cell? ⟨gb, o, none⟩) (by omega)).trans (hx 14 (by decide) _ rfl)
      have x15 : wr.cell? ⟨gb, off + i * 16 + 15, none⟩ = some (.int .u64 new) := (congrArg (fun o => wr.cell? ⟨gb, o, none⟩) (by omega)).trans (hx 15 (by decide) _ rfl)
      have hbl := Nat.lt_of_lt_of_le hgl (Nat.le_trans HC0.out.size HC.out.size)
      clear hx hr hcell hC
      go_upto_region 6 with fail
      have HBd : Blk ((wr.alloc (.cells #[.int .i64 step, .int .i64 node, .int .i64 page, .bool done, .int .i64 op, .int .i64 rd, .int .i64 rs, .int .i64 rt, .int .i64 im, .int .u64 pc, .int .i64 cause, .int .i64 access, .int .u64 addr, .int .i64 size, .int .u64 old, .int .u64 new] 86)).alloc (.cells #[.bool done, .int .i64 op, .int .i64 rd, .int .i64 rs, .int .i64 rt, .int .i64 im, .int .u64 pc, .int .i64 cause, .int .i64 access, .int .u64 addr, .int .i64 size, .int .u64 old, .int .u64 new] 84)) (wr.heap.size + 1) #[.bool done, .int .i64 op, .int .i64 rd, .int .i64 rs, .int .i64 rt, .int .i64 im, .int .u64 pc, .int .i64 cause, .int .i64 access, .int .u64 addr, .int .i64 size, .int .u64 old, .int .u64 new] 84 := by
        have := Blk.new (wr.alloc (.cells #[.int .i64 step, .int .i64 node, .int .i64 page, .bool done, .int .i64 op, .int .i64 rd, .int .i64 rs, .int .i64 rt, .int .i64 im, .int .u64 pc, .int .i64 cause, .int .i64 access, .int .u64 addr, .int .i64 size, .int .u64 old, .int .u64 new] 86)) #[.bool done, .int .i64 op, .int .i64 rd, .int .i64 rs, .int .i64 rt, .int .i64 im, .int .u64 pc, .int .i64 cause, .int .i64 access, .int .u64 addr, .int .i64 size, .int .u64 old, .int .u64 new] 84
        rwa [show (wr.alloc (.cells #[.int .i64 step, .int .i64 node, .int .i64 page, .bool done, .int .i64 op, .int .i64 rd, .int .i64 rs, .int .i64 rt, .int .i64 im, .int .u64 pc, .int .i64 cause, .int .i64 access, .int .u64 addr, .int .i64 size, .int .u64 old, .int .u64 new] 86)).heap.size = wr.heap.size + 1 by simp] at this
      have HC7 := Lib.hid (((Chg.refl NoB wr).alloc (.cells #[.int .i64 step, .int .i64 node, .int .i64 page, .bool done, .int .i64 op, .int .i64 rd, .int .i64 rs, .int .i64 rt, .int .i64 im, .int .u64 pc, .int .i64 cause, .int .i64 access, .int .u64 addr, .int .i64 size, .int .u64 old, .int .u64 new] 86)).alloc (.cells #[.bool done, .int .i64 op, .int .i64 rd, .int .i64 rs, .int .i64 rt, .int .i64 im, .int .u64 pc, .int .i64 cause, .int .i64 access, .int .u64 addr, .int .i64 size, .int .u64 old, .int .u64 new] 84))
      clear x0 x1 x2 x3 x4 x5 x6 x7 x8 x9 x10 x11 x12 x13 x14 x15 hbl
      obtain ⟨w7, hw7⟩ : ∃ x, (wr.alloc (.cells #[.int .i64 step, .int .i64 node, .int .i64 page, .bool done, .int .i64 op, .int .i64 rd, .int .i64 rs, .int .i64 rt, .int .i64 im, .int .u64 pc, .int .i64 cause, .int .i64 access, .int .u64 addr, .int .i64 size, .int .u64 old, .int .u64 new] 86)).alloc (.cells #[.bool done, .int .i64 op, .int .i64 rd, .int .i64 rs, .int .i64 rt, .int .i64 im, .int .u64 pc, .int .i64 cause, .int .i64 access, .int .u64 addr, .int .i64 size, .int .u64 old, .int .u64 new] 84) = x := ⟨_, rfl⟩
      rw [hw7] at HBd HC7
      simp only [hw7]
      clear hw7
      obtain ⟨fb, hfb⟩ : ∃ b, wr.heap.size = b := ⟨_, rfl⟩
      rw [hfb] at HBd
      simp only [hfb]
      clear hfb
      have g7 := HBd.ever
      have gl7 := HBd.everL
      have HSz : Hid (∀ w', Calls Tryz.prog 42 #[.int .i64 size] w' (RetW (.bool (sizeB size)) fun w'' => w'' = w')) := Lib.hid fun w' => size_any size w'
      have HTl : Hid (∀ w', Calls Tryz.prog 43 #[.agg #[.bool done, .int .i64 op, .int .i64 rd, .int .i64 rs, .int .i64 rt, .int .i64 im, .int .u64 pc, .int .i64 cause, .int .i64 access, .int .u64 addr, .int .i64 size, .int .u64 old, .int .u64 new]] w' (RetW (.bool (tellB access op)) fun w'' => Chg NoB w' w'')) := Lib.hid fun w' => tells_any done op rd rs rt im pc cause access addr size old new w'
      have HLd : Hid (∀ w', Chg NoB w7 w' → sizeB size = true → Calls Tryz.prog 44 #[.map (some mb), .int .u64 addr, .int .i64 size] w' (RetW (.int .u64 (getW (ldM g addr) 0 size.toNat)) fun w'' => Chg NoB w' w'')) := Lib.hid fun w' c h => by
        have e : size = (size.toNat : Int) := by rcases sizeB_of h with e | e | e | e <;> omega
        have := mLoad_any ((HM.out.chg HC7.out id).chg c id) HG.out addr size.toNat (by rw [← e]; exact h) HFo.out.addr
        rwa [← e] at this
      have HMB7 : Hid (MemM w7 mb g) := Lib.hid (HM.out.chg HC7.out id)
      have c7 := Chg.refl NoB w7
      obtain ⟨ok, hok⟩ : ∃ b, okD g ⟨done, ⟨op, rd, rs, rt, im⟩, pc, cause, access, addr, size, old, new⟩ = b := ⟨_, rfl⟩
      have HOK := Lib.hid hok
      clear hok HBd
      go_cut [41] (fun s41 wx => s41 = .bool (!ok) ∧ Chg NoB w7 wx)
      case first =>
        have HV : Hid ((done && (sizeB size && (!tellB access op || getW (ldM g addr) 0 size.toNat == old))) = ok) := HOK
        clear HOK
        obtain ⟨x, hx⟩ : ∃ x, getW (ldM g addr) 0 size.toNat = x := ⟨_, rfl⟩
        rw [hx] at HV
        simp only [hx] at HLd
        clear hx
        obtain ⟨bs, hbs⟩ : ∃ b, sizeB size = b := ⟨_, rfl⟩
        obtain ⟨bt, hbt⟩ : ∃ b, tellB access op = b := ⟨_, rfl⟩
        rw [hbs] at HV HSz HLd
        rw [hbt] at HV HTl
        obtain ⟨bx, hbx⟩ : ∃ b, decide (x = old) = b := ⟨_, rfl⟩
        have HV : Hid ((done && (bs && (!bt || bx))) = ok) := Lib.hid (by rw [← hbx]; exact HV.out)
        have h4 : ((x : Int) != (old : Int)) = !bx := by
          rw [← hbx]
          by_cases e : x = old
          · subst e; simp
          · rw [decide_eq_false e]; simp; omega
        clear hbs hbt hbx
        subst HV
        have cD := c7.drew
        cases done
        · skip
          refine wp_region_mix 23 [(true, 0), (true, 1), (true, 2), (true, 3), (true, 4), (true, 5), (false, 6), (true, 7), (true, 8), (true, 9), (true, 10), (false, 11), (true, 12), (true, 13), (true, 14), (true, 15), (true, 16), (true, 17), (true, 19), (true, 20), (false, 18), (true, 21), (true, 22)] (fun w' => Chg NoB w7 w') (by kernel_rfl) (by kernel_rfl) (fun _ _ _ _ _ h => h) (cD) ?_
          simp only [pickMix_nil, pickMix_cons, Option.getD_some, List.getElem?_toArray, List.getElem?_cons_zero, List.getElem?_cons_succ, List.cons_append, List.nil_append, List.drop_succ_cons, List.drop_zero]
          iterate 4
           refine wpMix_take rfl ?_
           apply Exists.intro
           refine ⟨fun wS hS => ?_, ?_⟩
           · try dsimp only at hS
             have cS := hS
             go_simp
             try rfl
           simp only [Act.put, List.setIfInBounds_toArray, List.set_cons_zero, List.set_cons_succ]
          first
          | refine wpMix_off (by rfl) ?_
          | (refine wpMix_on (by rfl) ?_
             apply Exists.intro
             refine ⟨fun wS hS => ?_, ?_⟩
             · try dsimp only at hS
               have cS := hS
               go_simp
               try rfl)
          simp only [Act.put, List.setIfInBounds_toArray, List.set_cons_zero, List.set_cons_succ]
          first
          | refine wpMix_off (by rfl) ?_
          | (refine wpMix_on (by rfl) ?_
             apply Exists.intro
             refine ⟨fun wS hS => ?_, ?_⟩
             · try dsimp only at hS
               have cS := hS
               go_simp
               try rfl)
          simp only [Act.put, List.setIfInBounds_toArray, List.set_cons_zero, List.set_cons_succ]
          first
          | (refine wpMix_offForce (by rfl) (by with_reducible assumption) ?_
             simp only [Act.put, List.setIfInBounds_toArray, List.set_cons_zero, List.set_cons_succ])
          | (refine wpMix_onForce (by rfl) (fun K hK => ?_)
             go_simp
             refine (HSz.out _).mono ?_
             rintro e w9 ⟨rfl, hw⟩
             subst hw
             refine hK _ _ (by with_reducible assumption) ?_
             clear hK K)
          first
          | refine wpMix_off (by rfl) ?_
          | (refine wpMix_on (by rfl) ?_
             apply Exists.intro
             refine ⟨fun wS hS => ?_, ?_⟩
             · try dsimp only at hS
               have cS := hS
               go_simp
               try rfl)
          simp only [Act.put, List.setIfInBounds_toArray, List.set_cons_zero, List.set_cons_succ]
          iterate 2
           refine wpMix_take rfl ?_
           apply Exists.intro
           refine ⟨fun wS hS => ?_, ?_⟩
           · try dsimp only at hS
             have cS := hS
             go_simp
             try rfl
           simp only [Act.put, List.setIfInBounds_toArray, List.set_cons_zero, List.set_cons_succ]
          first
          | refine wpMix_off (by rfl) ?_
          | (refine wpMix_on (by rfl) ?_
             apply Exists.intro
             refine ⟨fun wS hS => ?_, ?_⟩
             · try dsimp only at hS
               have cS := hS
               go_simp
               try rfl)
          simp only [Act.put, List.setIfInBounds_toArray, List.set_cons_zero, List.set_cons_succ]
          first
          | (refine wpMix_offForce (by rfl) (by with_reducible assumption) ?_
             simp only [Act.put, List.setIfInBounds_toArray, List.set_cons_zero, List.set_cons_succ])
          | (refine wpMix_onForce (by rfl) (fun K hK => ?_)
             go_simp
             refine (HTl.out _).mono ?_
             rintro e w9 ⟨rfl, hC'⟩
             have c9 := Chg.step (by with_reducible assumption : Chg NoB w7 _) hC'
             refine hK _ _ (by with_reducible assumption) ?_
             clear hK K hC')
          first
          | refine wpMix_off (by rfl) ?_
          | (refine wpMix_on (by rfl) ?_
             apply Exists.intro
             refine ⟨fun wS hS => ?_, ?_⟩
             · try dsimp only at hS
               have cS := hS
               go_simp
               try rfl)
          simp only [Act.put, List.setIfInBounds_toArray, List.set_cons_zero, List.set_cons_succ]
          first
          | refine wpMix_off (by rfl) ?_
          | (refine wpMix_on (by rfl) ?_
             apply Exists.intro
             refine ⟨fun wS hS => ?_, ?_⟩
             · try dsimp only at hS
               have cS := hS
               go_simp
               try rfl)
          simp only [Act.put, List.setIfInBounds_toArray, List.set_cons_zero, List.set_cons_succ]
          first
          | refine wpMix_off (by rfl) ?_
          | (refine wpMix_on (by rfl) ?_
             apply Exists.intro
             refine ⟨fun wS hS => ?_, ?_⟩
             · try dsimp only at hS
               have cS := hS
               go_simp
               try rfl)
          simp only [Act.put, List.setIfInBounds_toArray, List.set_cons_zero, List.set_cons_succ]
          first
          | refine wpMix_off (by rfl) ?_
          | (refine wpMix_on (by rfl) ?_
             apply Exists.intro
             refine ⟨fun wS hS => ?_, ?_⟩
             · try dsimp only at hS
               have cS := hS
               go_simp
               try rfl)
          simp only [Act.put, List.setIfInBounds_toArray, List.set_cons_zero, List.set_cons_succ]
          first
          | refine wpMix_off (by rfl) ?_
          | (refine wpMix_on (by rfl) ?_
             apply Exists.intro
             refine ⟨fun wS hS => ?_, ?_⟩
             · try dsimp only at hS
               have cS := hS
               go_simp
               try rfl)
          simp only [Act.put, List.setIfInBounds_toArray, List.set_cons_zero, List.set_cons_succ]
          first
          | refine wpMix_off (by rfl) ?_
          | (refine wpMix_on (by rfl) ?_
             apply Exists.intro
             refine ⟨fun wS hS => ?_, ?_⟩
             · try dsimp only at hS
               have cS := hS
               go_simp
               try rfl)
          simp only [Act.put, List.setIfInBounds_toArray, List.set_cons_zero, List.set_cons_succ]
          first
          | refine wpMix_off (by rfl) ?_
          | (refine wpMix_on (by rfl) ?_
             apply Exists.intro
             refine ⟨fun wS hS => ?_, ?_⟩
             · try dsimp only at hS
               have cS := hS
               go_simp
               try rfl)
          simp only [Act.put, List.setIfInBounds_toArray, List.set_cons_zero, List.set_cons_succ]
          first
          | refine wpMix_off (by rfl) ?_
          | (refine wpMix_on (by rfl) ?_
             apply Exists.intro
             refine ⟨fun wS hS => ?_, ?_⟩
             · try dsimp only at hS
               have cS := hS
               go_simp
               try rfl)
          simp only [Act.put, List.setIfInBounds_toArray, List.set_cons_zero, List.set_cons_succ]
          first
          | (refine wpMix_offForce (by rfl) (by with_reducible assumption) ?_
             simp only [Act.put, List.setIfInBounds_toArray, List.set_cons_zero, List.set_cons_succ])
          | (refine wpMix_onForce (by rfl) (fun K hK => ?_)
             go_simp
             refine (HLd.out _ (by with_reducible assumption) rfl).mono ?_
             rintro e w9 ⟨rfl, hC'⟩
             have c9 := Chg.step (by with_reducible assumption : Chg NoB w7 _) hC'
             refine hK _ _ (by with_reducible assumption) ?_
             clear hK K hC')
          first
          | refine wpMix_off (by rfl) ?_
          | (refine wpMix_on (by rfl) ?_
             apply Exists.intro
             refine ⟨fun wS hS => ?_, ?_⟩
             · try dsimp only at hS
               have cS := hS
               go_simp
               try rfl)
          simp only [Act.put, List.setIfInBounds_toArray, List.set_cons_zero, List.set_cons_succ]
          first
          | refine wpMix_off (by rfl) ?_
          | (refine wpMix_on (by rfl) ?_
             apply Exists.intro
             refine ⟨fun wS hS => ?_, ?_⟩
             · try dsimp only at hS
               have cS := hS
               go_simp
               try rfl)
          simp only [Act.put, List.setIfInBounds_toArray, List.set_cons_zero, List.set_cons_succ]
          refine wpMix_nil ?_
          go_wp2_with fail
          go_meet
          exact ⟨by first | rfl | (rw [h4]; rfl), by with_reducible assumption⟩
        · cases bs
          · skip
            refine wp_region_mix 23 [(true, 0), (true, 1), (true, 2), (true, 3), (true, 4), (true, 5), (false, 6), (true, 7), (true, 8), (true, 9), (true, 10), (false, 11), (true, 12), (true, 13), (true, 14), (true, 15), (true, 16), (true, 17), (true, 19), (true, 20), (false, 18), (true, 21), (true, 22)] (fun w' => Chg NoB w7 w') (by kernel_rfl) (by kernel_rfl) (fun _ _ _ _ _ h => h) (cD) ?_
            simp only [pickMix_nil, pickMix_cons, Option.getD_some, List.getElem?_toArray, List.getElem?_cons_zero, List.getElem?_cons_succ, List.cons_append, List.nil_append, List.drop_succ_cons, List.drop_zero]
            iterate 4
             refine wpMix_take rfl ?_
             apply Exists.intro
             refine ⟨fun wS hS => ?_, ?_⟩
             · try dsimp only at hS
               have cS := hS
               go_simp
               try rfl
             simp only [Act.put, List.setIfInBounds_toArray, List.set_cons_zero, List.set_cons_succ]
            first
            | refine wpMix_off (by rfl) ?_
            | (refine wpMix_on (by rfl) ?_
               apply Exists.intro
               refine ⟨fun wS hS => ?_, ?_⟩
               · try dsimp only at hS
                 have cS := hS
                 go_simp
                 try rfl)
            simp only [Act.put, List.setIfInBounds_toArray, List.set_cons_zero, List.set_cons_succ]
            first
            | refine wpMix_off (by rfl) ?_
            | (refine wpMix_on (by rfl) ?_
               apply Exists.intro
               refine ⟨fun wS hS => ?_, ?_⟩
               · try dsimp only at hS
                 have cS := hS
                 go_simp
                 try rfl)
            simp only [Act.put, List.setIfInBounds_toArray, List.set_cons_zero, List.set_cons_succ]
            first
            | (refine wpMix_offForce (by rfl) (by with_reducible assumption) ?_
               simp only [Act.put, List.setIfInBounds_toArray, List.set_cons_zero, List.set_cons_succ])
            | (refine wpMix_onForce (by rfl) (fun K hK => ?_)
               go_simp
               refine (HSz.out _).mono ?_
               rintro e w9 ⟨rfl, hw⟩
               subst hw
               refine hK _ _ (by with_reducible assumption) ?_
               clear hK K)
            first
            | refine wpMix_off (by rfl) ?_
            | (refine wpMix_on (by rfl) ?_
               apply Exists.intro
               refine ⟨fun wS hS => ?_, ?_⟩
               · try dsimp only at hS
                 have cS := hS
                 go_simp
                 try rfl)
            simp only [Act.put, List.setIfInBounds_toArray, List.set_cons_zero, List.set_cons_succ]
            iterate 2
             refine wpMix_take rfl ?_
             apply Exists.intro
             refine ⟨fun wS hS => ?_, ?_⟩
             · try dsimp only at hS
               have cS := hS
               go_simp
               try rfl
             simp only [Act.put, List.setIfInBounds_toArray, List.set_cons_zero, List.set_cons_succ]
            first
            | refine wpMix_off (by rfl) ?_
            | (refine wpMix_on (by rfl) ?_
               apply Exists.intro
               refine ⟨fun wS hS => ?_, ?_⟩
               · try dsimp only at hS
                 have cS := hS
                 go_simp
                 try rfl)
            simp only [Act.put, List.setIfInBounds_toArray, List.set_cons_zero, List.set_cons_succ]
            first
            | (refine wpMix_offForce (by rfl) (by with_reducible assumption) ?_
               simp only [Act.put, List.setIfInBounds_toArray, List.set_cons_zero, List.set_cons_succ])
            | (refine wpMix_onForce (by rfl) (fun K hK => ?_)
               go_simp
               refine (HTl.out _).mono ?_
               rintro e w9 ⟨rfl, hC'⟩
               have c9 := Chg.step (by with_reducible assumption : Chg NoB w7 _) hC'
               refine hK _ _ (by with_reducible assumption) ?_
               clear hK K hC')
            first
            | refine wpMix_off (by rfl) ?_
            | (refine wpMix_on (by rfl) ?_
               apply Exists.intro
               refine ⟨fun wS hS => ?_, ?_⟩
               · try dsimp only at hS
                 have cS := hS
                 go_simp
                 try rfl)
            simp only [Act.put, List.setIfInBounds_toArray, List.set_cons_zero, List.set_cons_succ]
            first
            | refine wpMix_off (by rfl) ?_
            | (refine wpMix_on (by rfl) ?_
               apply Exists.intro
               refine ⟨fun wS hS => ?_, ?_⟩
               · try dsimp only at hS
                 have cS := hS
                 go_simp
                 try rfl)
            simp only [Act.put, List.setIfInBounds_toArray, List.set_cons_zero, List.set_cons_succ]
            first
            | refine wpMix_off (by rfl) ?_
            | (refine wpMix_on (by rfl) ?_
               apply Exists.intro
               refine ⟨fun wS hS => ?_, ?_⟩
               · try dsimp only at hS
                 have cS := hS
                 go_simp
                 try rfl)
            simp only [Act.put, List.setIfInBounds_toArray, List.set_cons_zero, List.set_cons_succ]
            first
            | refine wpMix_off (by rfl) ?_
            | (refine wpMix_on (by rfl) ?_
               apply Exists.intro
               refine ⟨fun wS hS => ?_, ?_⟩
               · try dsimp only at hS
                 have cS := hS
                 go_simp
                 try rfl)
            simp only [Act.put, List.setIfInBounds_toArray, List.set_cons_zero, List.set_cons_succ]
            first
            | refine wpMix_off (by rfl) ?_
            | (refine wpMix_on (by rfl) ?_
               apply Exists.intro
               refine ⟨fun wS hS => ?_, ?_⟩
               · try dsimp only at hS
                 have cS := hS
                 go_simp
                 try rfl)
            simp only [Act.put, List.setIfInBounds_toArray, List.set_cons_zero, List.set_cons_succ]
            first
            | refine wpMix_off (by rfl) ?_
            | (refine wpMix_on (by rfl) ?_
               apply Exists.intro
               refine ⟨fun wS hS => ?_, ?_⟩
               · try dsimp only at hS
                 have cS := hS
                 go_simp
                 try rfl)
            simp only [Act.put, List.setIfInBounds_toArray, List.set_cons_zero, List.set_cons_succ]
            first
            | refine wpMix_off (by rfl) ?_
            | (refine wpMix_on (by rfl) ?_
               apply Exists.intro
               refine ⟨fun wS hS => ?_, ?_⟩
               · try dsimp only at hS
                 have cS := hS
                 go_simp
                 try rfl)
            simp only [Act.put, List.setIfInBounds_toArray, List.set_cons_zero, List.set_cons_succ]
            first
            | refine wpMix_off (by rfl) ?_
            | (refine wpMix_on (by rfl) ?_
               apply Exists.intro
               refine ⟨fun wS hS => ?_, ?_⟩
               · try dsimp only at hS
                 have cS := hS
                 go_simp
                 try rfl)
            simp only [Act.put, List.setIfInBounds_toArray, List.set_cons_zero, List.set_cons_succ]
            first
            | (refine wpMix_offForce (by rfl) (by with_reducible assumption) ?_
               simp only [Act.put, List.setIfInBounds_toArray, List.set_cons_zero, List.set_cons_succ])
            | (refine wpMix_onForce (by rfl) (fun K hK => ?_)
               go_simp
               refine (HLd.out _ (by with_reducible assumption) rfl).mono ?_
               rintro e w9 ⟨rfl, hC'⟩
               have c9 := Chg.step (by with_reducible assumption : Chg NoB w7 _) hC'
               refine hK _ _ (by with_reducible assumption) ?_
               clear hK K hC')
            first
            | refine wpMix_off (by rfl) ?_
            | (refine wpMix_on (by rfl) ?_
               apply Exists.intro
               refine ⟨fun wS hS => ?_, ?_⟩
               · try dsimp only at hS
                 have cS := hS
                 go_simp
                 try rfl)
            simp only [Act.put, List.setIfInBounds_toArray, List.set_cons_zero, List.set_cons_succ]
            first
            | refine wpMix_off (by rfl) ?_
            | (refine wpMix_on (by rfl) ?_
               apply Exists.intro
               refine ⟨fun wS hS => ?_, ?_⟩
               · try dsimp only at hS
                 have cS := hS
                 go_simp
                 try rfl)
            simp only [Act.put, List.setIfInBounds_toArray, List.set_cons_zero, List.set_cons_succ]
            refine wpMix_nil ?_
            go_wp2_with fail
            go_meet
            exact ⟨by first | rfl | (rw [h4]; rfl), by with_reducible assumption⟩
          · cases bt
            · skip
              refine wp_region_mix 23 [(true, 0), (true, 1), (true, 2), (true, 3), (true, 4), (true, 5), (false, 6), (true, 7), (true, 8), (true, 9), (true, 10), (false, 11), (true, 12), (true, 13), (true, 14), (true, 15), (true, 16), (true, 17), (true, 19), (true, 20), (false, 18), (true, 21), (true, 22)] (fun w' => Chg NoB w7 w') (by kernel_rfl) (by kernel_rfl) (fun _ _ _ _ _ h => h) (cD) ?_
              simp only [pickMix_nil, pickMix_cons, Option.getD_some, List.getElem?_toArray, List.getElem?_cons_zero, List.getElem?_cons_succ, List.cons_append, List.nil_append, List.drop_succ_cons, List.drop_zero]
              iterate 4
               refine wpMix_take rfl ?_
               apply Exists.intro
               refine ⟨fun wS hS => ?_, ?_⟩
               · try dsimp only at hS
                 have cS := hS
                 go_simp
                 try rfl
               simp only [Act.put, List.setIfInBounds_toArray, List.set_cons_zero, List.set_cons_succ]
              first
              | refine wpMix_off (by rfl) ?_
              | (refine wpMix_on (by rfl) ?_
                 apply Exists.intro
                 refine ⟨fun wS hS => ?_, ?_⟩
                 · try dsimp only at hS
                   have cS := hS
                   go_simp
                   try rfl)
              simp only [Act.put, List.setIfInBounds_toArray, List.set_cons_zero, List.set_cons_succ]
              first
              | refine wpMix_off (by rfl) ?_
              | (refine wpMix_on (by rfl) ?_
                 apply Exists.intro
                 refine ⟨fun wS hS => ?_, ?_⟩
                 · try dsimp only at hS
                   have cS := hS
                   go_simp
                   try rfl)
              simp only [Act.put, List.setIfInBounds_toArray, List.set_cons_zero, List.set_cons_succ]
              first
              | (refine wpMix_offForce (by rfl) (by with_reducible assumption) ?_
                 simp only [Act.put, List.setIfInBounds_toArray, List.set_cons_zero, List.set_cons_succ])
              | (refine wpMix_onForce (by rfl) (fun K hK => ?_)
                 go_simp
                 refine (HSz.out _).mono ?_
                 rintro e w9 ⟨rfl, hw⟩
                 subst hw
                 refine hK _ _ (by with_reducible assumption) ?_
                 clear hK K)
              first
              | refine wpMix_off (by rfl) ?_
              | (refine wpMix_on (by rfl) ?_
                 apply Exists.intro
                 refine ⟨fun wS hS => ?_, ?_⟩
                 · try dsimp only at hS
                   have cS := hS
                   go_simp
                   try rfl)
              simp only [Act.put, List.setIfInBounds_toArray, List.set_cons_zero, List.set_cons_succ]
              iterate 2
               refine wpMix_take rfl ?_
               apply Exists.intro
               refine ⟨fun wS hS => ?_, ?_⟩
               · try dsimp only at hS
                 have cS := hS
                 go_simp
                 try rfl
               simp only [Act.put, List.setIfInBounds_toArray, List.set_cons_zero, List.set_cons_succ]
              first
              | refine wpMix_off (by rfl) ?_
              | (refine wpMix_on (by rfl) ?_
                 apply Exists.intro
                 refine ⟨fun wS hS => ?_, ?_⟩
                 · try dsimp only at hS
                   have cS := hS
                   go_simp
                   try rfl)
              simp only [Act.put, List.setIfInBounds_toArray, List.set_cons_zero, List.set_cons_succ]
              first
              | (refine wpMix_offForce (by rfl) (by with_reducible assumption) ?_
                 simp only [Act.put, List.setIfInBounds_toArray, List.set_cons_zero, List.set_cons_succ])
              | (refine wpMix_onForce (by rfl) (fun K hK => ?_)
                 go_simp
                 refine (HTl.out _).mono ?_
                 rintro e w9 ⟨rfl, hC'⟩
                 have c9 := Chg.step (by with_reducible assumption : Chg NoB w7 _) hC'
                 refine hK _ _ (by with_reducible assumption) ?_
                 clear hK K hC')
              first
              | refine wpMix_off (by rfl) ?_
              | (refine wpMix_on (by rfl) ?_
                 apply Exists.intro
                 refine ⟨fun wS hS => ?_, ?_⟩
                 · try dsimp only at hS
                   have cS := hS
                   go_simp
                   try rfl)
              simp only [Act.put, List.setIfInBounds_toArray, List.set_cons_zero, List.set_cons_succ]
              first
              | refine wpMix_off (by rfl) ?_
              | (refine wpMix_on (by rfl) ?_
                 apply Exists.intro
                 refine ⟨fun wS hS => ?_, ?_⟩
                 · try dsimp only at hS
                   have cS := hS
                   go_simp
                   try rfl)
              simp only [Act.put, List.setIfInBounds_toArray, List.set_cons_zero, List.set_cons_succ]
              first
              | refine wpMix_off (by rfl) ?_
              | (refine wpMix_on (by rfl) ?_
                 apply Exists.intro
                 refine ⟨fun wS hS => ?_, ?_⟩
                 · try dsimp only at hS
                   have cS := hS
                   go_simp
                   try rfl)
              simp only [Act.put, List.setIfInBounds_toArray, List.set_cons_zero, List.set_cons_succ]
              first
              | refine wpMix_off (by rfl) ?_
              | (refine wpMix_on (by rfl) ?_
                 apply Exists.intro
                 refine ⟨fun wS hS => ?_, ?_⟩
                 · try dsimp only at hS
                   have cS := hS
                   go_simp
                   try rfl)
              simp only [Act.put, List.setIfInBounds_toArray, List.set_cons_zero, List.set_cons_succ]
              first
              | refine wpMix_off (by rfl) ?_
              | (refine wpMix_on (by rfl) ?_
                 apply Exists.intro
                 refine ⟨fun wS hS => ?_, ?_⟩
                 · try dsimp only at hS
                   have cS := hS
                   go_simp
                   try rfl)
              simp only [Act.put, List.setIfInBounds_toArray, List.set_cons_zero, List.set_cons_succ]
              first
              | refine wpMix_off (by rfl) ?_
              | (refine wpMix_on (by rfl) ?_
                 apply Exists.intro
                 refine ⟨fun wS hS => ?_, ?_⟩
                 · try dsimp only at hS
                   have cS := hS
                   go_simp
                   try rfl)
              simp only [Act.put, List.setIfInBounds_toArray, List.set_cons_zero, List.set_cons_succ]
              first
              | refine wpMix_off (by rfl) ?_
              | (refine wpMix_on (by rfl) ?_
                 apply Exists.intro
                 refine ⟨fun wS hS => ?_, ?_⟩
                 · try dsimp only at hS
                   have cS := hS
                   go_simp
                   try rfl)
              simp only [Act.put, List.setIfInBounds_toArray, List.set_cons_zero, List.set_cons_succ]
              first
              | refine wpMix_off (by rfl) ?_
              | (refine wpMix_on (by rfl) ?_
                 apply Exists.intro
                 refine ⟨fun wS hS => ?_, ?_⟩
                 · try dsimp only at hS
                   have cS := hS
                   go_simp
                   try rfl)
              simp only [Act.put, List.setIfInBounds_toArray, List.set_cons_zero, List.set_cons_succ]
              first
              | (refine wpMix_offForce (by rfl) (by with_reducible assumption) ?_
                 simp only [Act.put, List.setIfInBounds_toArray, List.set_cons_zero, List.set_cons_succ])
              | (refine wpMix_onForce (by rfl) (fun K hK => ?_)
                 go_simp
                 refine (HLd.out _ (by with_reducible assumption) rfl).mono ?_
                 rintro e w9 ⟨rfl, hC'⟩
                 have c9 := Chg.step (by with_reducible assumption : Chg NoB w7 _) hC'
                 refine hK _ _ (by with_reducible assumption) ?_
                 clear hK K hC')
              first
              | refine wpMix_off (by rfl) ?_
              | (refine wpMix_on (by rfl) ?_
                 apply Exists.intro
                 refine ⟨fun wS hS => ?_, ?_⟩
                 · try dsimp only at hS
                   have cS := hS
                   go_simp
                   try rfl)
              simp only [Act.put, List.setIfInBounds_toArray, List.set_cons_zero, List.set_cons_succ]
              first
              | refine wpMix_off (by rfl) ?_
              | (refine wpMix_on (by rfl) ?_
                 apply Exists.intro
                 refine ⟨fun wS hS => ?_, ?_⟩
                 · try dsimp only at hS
                   have cS := hS
                   go_simp
                   try rfl)
              simp only [Act.put, List.setIfInBounds_toArray, List.set_cons_zero, List.set_cons_succ]
              refine wpMix_nil ?_
              go_wp2_with fail
              go_meet
              exact ⟨by first | rfl | (rw [h4]; rfl), by with_reducible assumption⟩
            · cases bx
              · skip
                refine wp_region_mix 23 [(true, 0), (true, 1), (true, 2), (true, 3), (true, 4), (true, 5), (false, 6), (true, 7), (true, 8), (true, 9), (true, 10), (false, 11), (true, 12), (true, 13), (true, 14), (true, 15), (true, 16), (true, 17), (true, 19), (true, 20), (false, 18), (true, 21), (true, 22)] (fun w' => Chg NoB w7 w') (by kernel_rfl) (by kernel_rfl) (fun _ _ _ _ _ h => h) (cD) ?_
                simp only [pickMix_nil, pickMix_cons, Option.getD_some, List.getElem?_toArray, List.getElem?_cons_zero, List.getElem?_cons_succ, List.cons_append, List.nil_append, List.drop_succ_cons, List.drop_zero]
                iterate 4
                 refine wpMix_take rfl ?_
                 apply Exists.intro
                 refine ⟨fun wS hS => ?_, ?_⟩
                 · try dsimp only at hS
                   have cS := hS
                   go_simp
                   try rfl
                 simp only [Act.put, List.setIfInBounds_toArray, List.set_cons_zero, List.set_cons_succ]
                first
                | refine wpMix_off (by rfl) ?_
                | (refine wpMix_on (by rfl) ?_
                   apply Exists.intro
                   refine ⟨fun wS hS => ?_, ?_⟩
                   · try dsimp only at hS
                     have cS := hS
                     go_simp
                     try rfl)
                simp only [Act.put, List.setIfInBounds_toArray, List.set_cons_zero, List.set_cons_succ]
                first
                | refine wpMix_off (by rfl) ?_
                | (refine wpMix_on (by rfl) ?_
                   apply Exists.intro
                   refine ⟨fun wS hS => ?_, ?_⟩
                   · try dsimp only at hS
                     have cS := hS
                     go_simp
                     try rfl)
                simp only [Act.put, List.setIfInBounds_toArray, List.set_cons_zero, List.set_cons_succ]
                first
                | (refine wpMix_offForce (by rfl) (by with_reducible assumption) ?_
                   simp only [Act.put, List.setIfInBounds_toArray, List.set_cons_zero, List.set_cons_succ])
                | (refine wpMix_onForce (by rfl) (fun K hK => ?_)
                   go_simp
                   refine (HSz.out _).mono ?_
                   rintro e w9 ⟨rfl, hw⟩
                   subst hw
                   refine hK _ _ (by with_reducible assumption) ?_
                   clear hK K)
                first
                | refine wpMix_off (by rfl) ?_
                | (refine wpMix_on (by rfl) ?_
                   apply Exists.intro
                   refine ⟨fun wS hS => ?_, ?_⟩
                   · try dsimp only at hS
                     have cS := hS
                     go_simp
                     try rfl)
                simp only [Act.put, List.setIfInBounds_toArray, List.set_cons_zero, List.set_cons_succ]
                iterate 2
                 refine wpMix_take rfl ?_
                 apply Exists.intro
                 refine ⟨fun wS hS => ?_, ?_⟩
                 · try dsimp only at hS
                   have cS := hS
                   go_simp
                   try rfl
                 simp only [Act.put, List.setIfInBounds_toArray, List.set_cons_zero, List.set_cons_succ]
                first
                | refine wpMix_off (by rfl) ?_
                | (refine wpMix_on (by rfl) ?_
                   apply Exists.intro
                   refine ⟨fun wS hS => ?_, ?_⟩
                   · try dsimp only at hS
                     have cS := hS
                     go_simp
                     try rfl)
                simp only [Act.put, List.setIfInBounds_toArray, List.set_cons_zero, List.set_cons_succ]
                first
                | (refine wpMix_offForce (by rfl) (by with_reducible assumption) ?_
                   simp only [Act.put, List.setIfInBounds_toArray, List.set_cons_zero, List.set_cons_succ])
                | (refine wpMix_onForce (by rfl) (fun K hK => ?_)
                   go_simp
                   refine (HTl.out _).mono ?_
                   rintro e w9 ⟨rfl, hC'⟩
                   have c9 := Chg.step (by with_reducible assumption : Chg NoB w7 _) hC'
                   refine hK _ _ (by with_reducible assumption) ?_
                   clear hK K hC')
                first
                | refine wpMix_off (by rfl) ?_
                | (refine wpMix_on (by rfl) ?_
                   apply Exists.intro
                   refine ⟨fun wS hS => ?_, ?_⟩
                   · try dsimp only at hS
                     have cS := hS
                     go_simp
                     try rfl)
                simp only [Act.put, List.setIfInBounds_toArray, List.set_cons_zero, List.set_cons_succ]
                first
                | refine wpMix_off (by rfl) ?_
                | (refine wpMix_on (by rfl) ?_
                   apply Exists.intro
                   refine ⟨fun wS hS => ?_, ?_⟩
                   · try dsimp only at hS
                     have cS := hS
                     go_simp
                     try rfl)
                simp only [Act.put, List.setIfInBounds_toArray, List.set_cons_zero, List.set_cons_succ]
                first
                | refine wpMix_off (by rfl) ?_
                | (refine wpMix_on (by rfl) ?_
                   apply Exists.intro
                   refine ⟨fun wS hS => ?_, ?_⟩
                   · try dsimp only at hS
                     have cS := hS
                     go_simp
                     try rfl)
                simp only [Act.put, List.setIfInBounds_toArray, List.set_cons_zero, List.set_cons_succ]
                first
                | refine wpMix_off (by rfl) ?_
                | (refine wpMix_on (by rfl) ?_
                   apply Exists.intro
                   refine ⟨fun wS hS => ?_, ?_⟩
                   · try dsimp only at hS
                     have cS := hS
                     go_simp
                     try rfl)
                simp only [Act.put, List.setIfInBounds_toArray, List.set_cons_zero, List.set_cons_succ]
                first
                | refine wpMix_off (by rfl) ?_
                | (refine wpMix_on (by rfl) ?_
                   apply Exists.intro
                   refine ⟨fun wS hS => ?_, ?_⟩
                   · try dsimp only at hS
                     have cS := hS
                     go_simp
                     try rfl)
                simp only [Act.put, List.setIfInBounds_toArray, List.set_cons_zero, List.set_cons_succ]
                first
                | refine wpMix_off (by rfl) ?_
                | (refine wpMix_on (by rfl) ?_
                   apply Exists.intro
                   refine ⟨fun wS hS => ?_, ?_⟩
                   · try dsimp only at hS
                     have cS := hS
                     go_simp
                     try rfl)
                simp only [Act.put, List.setIfInBounds_toArray, List.set_cons_zero, List.set_cons_succ]
                first
                | refine wpMix_off (by rfl) ?_
                | (refine wpMix_on (by rfl) ?_
                   apply Exists.intro
                   refine ⟨fun wS hS => ?_, ?_⟩
                   · try dsimp only at hS
                     have cS := hS
                     go_simp
                     try rfl)
                simp only [Act.put, List.setIfInBounds_toArray, List.set_cons_zero, List.set_cons_succ]
                first
                | refine wpMix_off (by rfl) ?_
                | (refine wpMix_on (by rfl) ?_
                   apply Exists.intro
                   refine ⟨fun wS hS => ?_, ?_⟩
                   · try dsimp only at hS
                     have cS := hS
                     go_simp
                     try rfl)
                simp only [Act.put, List.setIfInBounds_toArray, List.set_cons_zero, List.set_cons_succ]
                first
                | (refine wpMix_offForce (by rfl) (by with_reducible assumption) ?_
                   simp only [Act.put, List.setIfInBounds_toArray, List.set_cons_zero, List.set_cons_succ])
                | (refine wpMix_onForce (by rfl) (fun K hK => ?_)
                   go_simp
                   refine (HLd.out _ (by with_reducible assumption) rfl).mono ?_
                   rintro e w9 ⟨rfl, hC'⟩
                   have c9 := Chg.step (by with_reducible assumption : Chg NoB w7 _) hC'
                   refine hK _ _ (by with_reducible assumption) ?_
                   clear hK K hC')
                first
                | refine wpMix_off (by rfl) ?_
                | (refine wpMix_on (by rfl) ?_
                   apply Exists.intro
                   refine ⟨fun wS hS => ?_, ?_⟩
                   · try dsimp only at hS
                     have cS := hS
                     go_simp
                     try rfl)
                simp only [Act.put, List.setIfInBounds_toArray, List.set_cons_zero, List.set_cons_succ]
                first
                | refine wpMix_off (by rfl) ?_
                | (refine wpMix_on (by rfl) ?_
                   apply Exists.intro
                   refine ⟨fun wS hS => ?_, ?_⟩
                   · try dsimp only at hS
                     have cS := hS
                     go_simp
                     try rfl)
                simp only [Act.put, List.setIfInBounds_toArray, List.set_cons_zero, List.set_cons_succ]
                refine wpMix_nil ?_
                go_wp2_with fail
                go_meet
                exact ⟨by first | rfl | (rw [h4]; rfl), by with_reducible assumption⟩
              · skip
                refine wp_region_mix 23 [(true, 0), (true, 1), (true, 2), (true, 3), (true, 4), (true, 5), (false, 6), (true, 7), (true, 8), (true, 9), (true, 10), (false, 11), (true, 12), (true, 13), (true, 14), (true, 15), (true, 16), (true, 17), (true, 19), (true, 20), (false, 18), (true, 21), (true, 22)] (fun w' => Chg NoB w7 w') (by kernel_rfl) (by kernel_rfl) (fun _ _ _ _ _ h => h) (cD) ?_
                simp only [pickMix_nil, pickMix_cons, Option.getD_some, List.getElem?_toArray, List.getElem?_cons_zero, List.getElem?_cons_succ, List.cons_append, List.nil_append, List.drop_succ_cons, List.drop_zero]
                iterate 4
                 refine wpMix_take rfl ?_
                 apply Exists.intro
                 refine ⟨fun wS hS => ?_, ?_⟩
                 · try dsimp only at hS
                   have cS := hS
                   go_simp
                   try rfl
                 simp only [Act.put, List.setIfInBounds_toArray, List.set_cons_zero, List.set_cons_succ]
                first
                | refine wpMix_off (by rfl) ?_
                | (refine wpMix_on (by rfl) ?_
                   apply Exists.intro
                   refine ⟨fun wS hS => ?_, ?_⟩
                   · try dsimp only at hS
                     have cS := hS
                     go_simp
                     try rfl)
                simp only [Act.put, List.setIfInBounds_toArray, List.set_cons_zero, List.set_cons_succ]
                first
                | refine wpMix_off (by rfl) ?_
                | (refine wpMix_on (by rfl) ?_
                   apply Exists.intro
                   refine ⟨fun wS hS => ?_, ?_⟩
                   · try dsimp only at hS
                     have cS := hS
                     go_simp
                     try rfl)
                simp only [Act.put, List.setIfInBounds_toArray, List.set_cons_zero, List.set_cons_succ]
                first
                | (refine wpMix_offForce (by rfl) (by with_reducible assumption) ?_
                   simp only [Act.put, List.setIfInBounds_toArray, List.set_cons_zero, List.set_cons_succ])
                | (refine wpMix_onForce (by rfl) (fun K hK => ?_)
                   go_simp
                   refine (HSz.out _).mono ?_
                   rintro e w9 ⟨rfl, hw⟩
                   subst hw
                   refine hK _ _ (by with_reducible assumption) ?_
                   clear hK K)
                first
                | refine wpMix_off (by rfl) ?_
                | (refine wpMix_on (by rfl) ?_
                   apply Exists.intro
                   refine ⟨fun wS hS => ?_, ?_⟩
                   · try dsimp only at hS
                     have cS := hS
                     go_simp
                     try rfl)
                simp only [Act.put, List.setIfInBounds_toArray, List.set_cons_zero, List.set_cons_succ]
                iterate 2
                 refine wpMix_take rfl ?_
                 apply Exists.intro
                 refine ⟨fun wS hS => ?_, ?_⟩
                 · try dsimp only at hS
                   have cS := hS
                   go_simp
                   try rfl
                 simp only [Act.put, List.setIfInBounds_toArray, List.set_cons_zero, List.set_cons_succ]
                first
                | refine wpMix_off (by rfl) ?_
                | (refine wpMix_on (by rfl) ?_
                   apply Exists.intro
                   refine ⟨fun wS hS => ?_, ?_⟩
                   · try dsimp only at hS
                     have cS := hS
                     go_simp
                     try rfl)
                simp only [Act.put, List.setIfInBounds_toArray, List.set_cons_zero, List.set_cons_succ]
                first
                | (refine wpMix_offForce (by rfl) (by with_reducible assumption) ?_
                   simp only [Act.put, List.setIfInBounds_toArray, List.set_cons_zero, List.set_cons_succ])
                | (refine wpMix_onForce (by rfl) (fun K hK => ?_)
                   go_simp
                   refine (HTl.out _).mono ?_
                   rintro e w9 ⟨rfl, hC'⟩
                   have c9 := Chg.step (by with_reducible assumption : Chg NoB w7 _) hC'
                   refine hK _ _ (by with_reducible assumption) ?_
                   clear hK K hC')
                first
                | refine wpMix_off (by rfl) ?_
                | (refine wpMix_on (by rfl) ?_
                   apply Exists.intro
                   refine ⟨fun wS hS => ?_, ?_⟩
                   · try dsimp only at hS
                     have cS := hS
                     go_simp
                     try rfl)
                simp only [Act.put, List.setIfInBounds_toArray, List.set_cons_zero, List.set_cons_succ]
                first
                | refine wpMix_off (by rfl) ?_
                | (refine wpMix_on (by rfl) ?_
                   apply Exists.intro
                   refine ⟨fun wS hS => ?_, ?_⟩
                   · try dsimp only at hS
                     have cS := hS
                     go_simp
                     try rfl)
                simp only [Act.put, List.setIfInBounds_toArray, List.set_cons_zero, List.set_cons_succ]
                first
                | refine wpMix_off (by rfl) ?_
                | (refine wpMix_on (by rfl) ?_
                   apply Exists.intro
                   refine ⟨fun wS hS => ?_, ?_⟩
                   · try dsimp only at hS
                     have cS := hS
                     go_simp
                     try rfl)
                simp only [Act.put, List.setIfInBounds_toArray, List.set_cons_zero, List.set_cons_succ]
                first
                | refine wpMix_off (by rfl) ?_
                | (refine wpMix_on (by rfl) ?_
                   apply Exists.intro
                   refine ⟨fun wS hS => ?_, ?_⟩
                   · try dsimp only at hS
                     have cS := hS
                     go_simp
                     try rfl)
                simp only [Act.put, List.setIfInBounds_toArray, List.set_cons_zero, List.set_cons_succ]
                first
                | refine wpMix_off (by rfl) ?_
                | (refine wpMix_on (by rfl) ?_
                   apply Exists.intro
                   refine ⟨fun wS hS => ?_, ?_⟩
                   · try dsimp only at hS
                     have cS := hS
                     go_simp
                     try rfl)
                simp only [Act.put, List.setIfInBounds_toArray, List.set_cons_zero, List.set_cons_succ]
                first
                | refine wpMix_off (by rfl) ?_
                | (refine wpMix_on (by rfl) ?_
                   apply Exists.intro
                   refine ⟨fun wS hS => ?_, ?_⟩
                   · try dsimp only at hS
                     have cS := hS
                     go_simp
                     try rfl)
                simp only [Act.put, List.setIfInBounds_toArray, List.set_cons_zero, List.set_cons_succ]
                first
                | refine wpMix_off (by rfl) ?_
                | (refine wpMix_on (by rfl) ?_
                   apply Exists.intro
                   refine ⟨fun wS hS => ?_, ?_⟩
                   · try dsimp only at hS
                     have cS := hS
                     go_simp
                     try rfl)
                simp only [Act.put, List.setIfInBounds_toArray, List.set_cons_zero, List.set_cons_succ]
                first
                | refine wpMix_off (by rfl) ?_
                | (refine wpMix_on (by rfl) ?_
                   apply Exists.intro
                   refine ⟨fun wS hS => ?_, ?_⟩
                   · try dsimp only at hS
                     have cS := hS
                     go_simp
                     try rfl)
                simp only [Act.put, List.setIfInBounds_toArray, List.set_cons_zero, List.set_cons_succ]
                first
                | (refine wpMix_offForce (by rfl) (by with_reducible assumption) ?_
                   simp only [Act.put, List.setIfInBounds_toArray, List.set_cons_zero, List.set_cons_succ])
                | (refine wpMix_onForce (by rfl) (fun K hK => ?_)
                   go_simp
                   refine (HLd.out _ (by with_reducible assumption) rfl).mono ?_
                   rintro e w9 ⟨rfl, hC'⟩
                   have c9 := Chg.step (by with_reducible assumption : Chg NoB w7 _) hC'
                   refine hK _ _ (by with_reducible assumption) ?_
                   clear hK K hC')
                first
                | refine wpMix_off (by rfl) ?_
                | (refine wpMix_on (by rfl) ?_
                   apply Exists.intro
                   refine ⟨fun wS hS => ?_, ?_⟩
                   · try dsimp only at hS
                     have cS := hS
                     go_simp
                     try rfl)
                simp only [Act.put, List.setIfInBounds_toArray, List.set_cons_zero, List.set_cons_succ]
                first
                | refine wpMix_off (by rfl) ?_
                | (refine wpMix_on (by rfl) ?_
                   apply Exists.intro
                   refine ⟨fun wS hS => ?_, ?_⟩
                   · try dsimp only at hS
                     have cS := hS
                     go_simp
                     try rfl)
                simp only [Act.put, List.setIfInBounds_toArray, List.set_cons_zero, List.set_cons_succ]
                refine wpMix_nil ?_
                go_wp2_with fail
                go_meet
                exact ⟨by first | rfl | (rw [h4]; rfl), by with_reducible assumption⟩
      case rest =>
        obtain ⟨rfl, c8⟩ := hcut
        rename World => w8
        have HC8 := Lib.hid (HC7.out.step c8)
        have HM8 := Lib.hid (HM.out.chg HC8.out id)
        have g8 : ∀ w', Chg NoB w8 w' → ∀ i, w'.cell? ⟨fb + 1, i, none⟩ = _ := fun w' c => g7 w' (c8.step c)
        have gl8 : ∀ w', Chg NoB w8 w' → fb + 1 < w'.heap.size := fun w' c => gl7 w' (c8.step c)
        have c9 := Chg.refl NoB w8
        rw [HOK.out, HRi.out] at HSt
        clear g7 gl7 c7 HMB7 HLd HSz HTl c8
        cases ok
        · have HFin : Hid (R = (i, false)) := HSt
          go_wp2_with fail
          go_ret2
          exact ⟨by rw [HFin.out]; rfl, HC0.out.trans (HC.out.trans HC8.out fun _ _ e => e.elim) fun k hk e => by have e : k = mb := e; have := HMB.out; omega⟩
        · have HNx : Hid (replayF (nextD g ⟨done, ⟨op, rd, rs, rt, im⟩, pc, cause, access, addr, size, old, new⟩) (l.drop (i + 1)) (i + 1) = R) := Lib.hid HSt.out.symm
          have HGn := Lib.hid (nextD_ok HG.out ⟨done, ⟨op, rd, rs, rt, im⟩, pc, cause, access, addr, size, old, new⟩)
          have HCw : Hid (Chg (fun k => k = mb) w0 w8) := Lib.hid (HC.out.trans HC8.out fun _ _ e => e.elim)
          have HSzo : Hid (sizeB size = true) := Lib.hid (by
            have := HOK.out
            unfold okD at this
            dsimp only at this
            simp only [Bool.and_eq_true] at this
            exact this.2.1)
          clear HSt
          by_cases ha : access = 2
          · subst ha
            have HSt : Hid (Calls Tryz.prog 45 #[.map (some mb), .int .u64 addr, .int .i64 size, .int .u64 new] w8 (RetW (.tuple #[]) fun w' => MemM w' mb (nextD g ⟨done, ⟨op, rd, rs, rt, im⟩, pc, cause, 2, addr, size, old, new⟩) ∧ Chg (fun k => k = mb) w8 w')) := Lib.hid (by
              have e : size = (size.toNat : Int) := by rcases sizeB_of HSzo.out with e | e | e | e <;> omega
              have := mStore_any HM8.out addr size.toNat new (by rw [← e]; exact HSzo.out) HFo.out.addr HFo.out.new
              rwa [← e] at this)
            go_wp2_with fail
            with_reducible refine HSt.out.mono ?_
            rintro e w9 ⟨rfl, hM9, C9⟩
            have HX := Lib.hid (And.intro hM9 (HCw.out.trans C9 fun _ _ e => e))
            clear hM9 C9 g8 gl8 c9
            go_wp2_with fail
            go_roundg (n - (i + 1))
            case rel => exact ⟨i + 1, _, by go_num, by omega, rfl, HX.out.1, HGn.out, HNx.out, HX.out.2⟩
            case measure => rw [HK.out]; omega
          · have t3 : decide (access = 2) = false := decide_eq_false ha
            have t4 : (access == 2) = false := by simpa using ha
            have HX : Hid (MemM w8 mb (nextD g ⟨done, ⟨op, rd, rs, rt, im⟩, pc, cause, access, addr, size, old, new⟩)) := Lib.hid (by
              unfold nextD
              rw [if_neg ha]
              exact HM8.out)
            clear ha
            go_wp2_with fail
            go_roundg (n - (i + 1))
            case rel => exact ⟨i + 1, _, by go_num, by omega, rfl, HX.out, HGn.out, HNx.out, HCw.out⟩
            case measure => rw [HK.out]; omega
    · have t1 : decide ((i : Int) < n) = false := decide_eq_false (by omega)
      have t2 : decide (i < n) = false := decide_eq_false hi
      have HFin : Hid (R = (n, true)) := Lib.hid (by
        rw [← HRi.out, List.drop_eq_nil_of_le (by rw [HN.out]; omega), show i = n by omega]
        rfl)
      have HW : Hid (Chg NoB w wr) := Lib.hid (HC0.out.trans HC.out fun k hk e => by have e : k = mb := e; have := HMB.out; omega)
      obtain ⟨-, p, c, hv, hnc, hr⟩ := HS.out
      cases hv
      clear hr hC
      go_wp2_with fail
      go_ret2
      exact ⟨by rw [HFin.out]; rfl, HW.out⟩
end Go.Proofs.YtleilfkcjollaaaGreat
