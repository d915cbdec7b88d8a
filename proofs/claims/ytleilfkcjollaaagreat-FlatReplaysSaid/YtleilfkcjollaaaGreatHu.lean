/- Facts replayed, by the document. No condition. -/
import Derived.Test.YtleilfkcjollaaaGreatHs
import Derived.Test.YtleilfkcjollaaaGreatHt
set_option linter.unusedVariables false
set_option linter.unusedSimpArgs false
namespace Go.Proofs.YtleilfkcjollaaaGreat
open Go.RowKit Go.RR
def thereM (m : List (Nat × Nat)) (a : Nat) : Nat := m.foldl (fun t c => if c.1 = a then c.2 else t) 0
theorem thereM_snoc (m : List (Nat × Nat)) (c : Nat × Nat) (a : Nat) : thereM (m ++ [c]) a = if c.1 = a then c.2 else thereM m a := by
  unfold thereM
  rw [List.foldl_append]
  rfl
theorem thereM_take {m : List (Nat × Nat)} {q : Nat} {c : Nat × Nat} (h : m[q]? = some c) (a : Nat) : thereM (m.take (q + 1)) a = if c.1 = a then c.2 else thereM (m.take q) a := by
  rw [List.take_add_one, h]
  exact thereM_snoc _ c a
def cellsM (m : List (Nat × Nat)) : List Value := m.flatMap fun c => [.int .u64 c.1, .int .u8 c.2]
theorem cellsM_snoc (m : List (Nat × Nat)) (c : Nat × Nat) : cellsM (m ++ [c]) = cellsM m ++ [.int .u64 c.1, .int .u8 c.2] := by
  unfold cellsM
  rw [List.flatMap_append]
  rfl
theorem cellsM_get : ∀ (m : List (Nat × Nat)) (q : Nat) (c : Nat × Nat), m[q]? = some c → (cellsM m)[q * 2]? = some (.int .u64 c.1) ∧ (cellsM m)[q * 2 + 1]? = some (.int .u8 c.2)
  | [], q, c, h => by simp at h
  | x :: m, 0, c, h => by
    simp only [List.getElem?_cons_zero, Option.some.injEq] at h
    subst h
    exact ⟨rfl, rfl⟩
  | x :: m, q + 1, c, h => by
    rw [List.getElem?_cons_succ] at h
    have ih := cellsM_get m q c h
    unfold cellsM at ih ⊢
    rw [List.flatMap_cons, List.getElem?_append_right (by show 2 ≤ _; omega), List.getElem?_append_right (by show 2 ≤ _; omega)]
    show (m.flatMap fun c => [Value.int .u64 c.1, .int .u8 c.2])[(q + 1) * 2 - 2]? = _ ∧ (m.flatMap fun c => [Value.int .u64 c.1, .int .u8 c.2])[(q + 1) * 2 + 1 - 2]? = _
    rw [show (q + 1) * 2 - 2 = q * 2 by omega, show (q + 1) * 2 + 1 - 2 = q * 2 + 1 by omega]
    exact ih
def newM (a v : Nat) : Nat → List (Nat × Nat)
  | 0 => []
  | n + 1 => newM a v n ++ [(adr a n, v / 256 ^ n % 256)]
theorem newM_len (a v : Nat) : ∀ n, (newM a v n).length = n
  | 0 => rfl
  | n + 1 => by
    unfold newM
    rw [List.length_append, newM_len a v n]
    rfl
theorem thereM_new (m : List (Nat × Nat)) (a v : Nat) : ∀ n, thereM (m ++ newM a v n) = stM (thereM m) a v n
  | 0 => by unfold newM; rw [List.append_nil]; rfl
  | n + 1 => funext fun x => by
    unfold newM stM
    rw [← List.append_assoc, thereM_snoc, thereM_new m a v n]
    by_cases h : x = adr a n
    · rw [if_pos h.symm, if_pos h]
    · rw [if_neg (fun e => h e.symm), if_neg h]
theorem getW_byte {f : By} (hf : ByOk f) : ∀ (n r a : Nat), r < n → getW f a n / 256 ^ r % 256 = f (a + r)
  | 0, r, a, h => by omega
  | n + 1, 0, a, h => by
    have := hf a
    show (f a + 256 * getW f (a + 1) n) / 1 % 256 = f a
    omega
  | n + 1, r + 1, a, h => by
    have ih := getW_byte hf n r (a + 1) (by omega)
    have h1 := hf a
    show (f a + 256 * getW f (a + 1) n) / 256 ^ (r + 1) % 256 = f (a + (r + 1))
    rw [Nat.pow_succ, Nat.mul_comm (256 ^ r) 256, ← Nat.div_div_eq_div_mul, show (f a + 256 * getW f (a + 1) n) / 256 = getW f (a + 1) n by omega, ih, show a + 1 + r = a + (r + 1) by omega]
theorem tell_yes {g : Nat → Nat} {a s old : Nat} (h : ∀ r, r < s → g (adr a r) = old / 256 ^ r % 256) (hc : old % 256 ^ s = old) : getW (ldM g a) 0 s = old :=
  (getW_bytes old s 0 (ldM g a) (fun i hi => by rw [Nat.zero_add]; exact h i hi)).trans hc
theorem tell_no {g : Nat → Nat} (hg : ∀ x, g x < 256) {a s old r : Nat} (hr : r < s) (h : g (adr a r) ≠ old / 256 ^ r % 256) : getW (ldM g a) 0 s ≠ old := fun e => h (by
  have := getW_byte (f := ldM g a) (fun x => hg _) s r 0 hr
  rw [e, Nat.zero_add] at this
  exact this.symm)
theorem tell_cut {g : Nat → Nat} (hg : ∀ x, g x < 256) {a s old : Nat} (h : old % 256 ^ s ≠ old) : getW (ldM g a) 0 s ≠ old := fun e => h (by
  rw [← e]
  exact Nat.mod_eq_of_lt (getW_lt (fun x => hg _) s 0))
theorem okD_at (g : Nat → Nat) (i : In) (pc addr s old new : Nat) (c a : Int) (hs : sizeB (s : Int) = true) : okD g ⟨true, i, pc, c, a, addr, s, old, new⟩ = (!tellB a i.op || decide (getW (ldM g addr) 0 s = old)) := by
  unfold okD
  dsimp only
  rw [hs, Int.toNat_natCast]
  rfl
theorem cell_info : (Tryz.prog.info? 99).map (fun i => (i.zero, i.size, i.bytes)) = some (some (.agg #[.int .u64 0, .int .u8 0]), 2, 16) := by kernel_rfl
set_option maxHeartbeats 8000000 in
set_option maxRecDepth 100000 in
theorem refReplay_any {w : World} (l : List FactP) (S : Nat → Prop) (v : Value) (hs : Sl w S 16 v l.length (fcells l)) (hl : l.length ≤ 1000) (hok : ∀ f ∈ l, f.Ok) :
    Calls Tryz.prog 15 #[v] w (RetW (.tuple #[.int .i64 (replayF (fun _ => 0) l 0).1, .bool (replayF (fun _ => 0) l 0).2]) fun w' => Chg NoB w w') := by
  obtain ⟨vp, vc, hvf⟩ := hs.form
  subst hvf
  obtain ⟨R, hR⟩ : ∃ R, replayF (fun _ => 0) l 0 = R := ⟨_, rfl⟩
  rw [hR]
  have HR := Lib.hid hR
  have HS := Lib.hid hs
  have HO := Lib.hid hok
  obtain ⟨n, hn⟩ : ∃ n, l.length = n := ⟨_, rfl⟩
  rw [hn] at hl HS
  simp only [hn]
  have HN := Lib.hid hn
  clear hs hok hR hn
  go_enter Tryz.func15, Tryz.ntmps15
  go_wp2_with fail
  go_loopg [4, 17] n (fun k mv v wr => ∃ (i : Nat) (m : List (Nat × Nat)), v = .int .i64 i ∧ i ≤ n ∧ k = n - i ∧ Own wr (fun k => w.heap.size ≤ k) 99 2 mv m.length (cellsM m) ∧ m.length ≤ 8 * i ∧ (∀ x, thereM m x < 256) ∧ replayF (thereM m) (l.drop i) i = R ∧ Chg NoB w wr)
  case atStart => exact ⟨0, [], rfl, by omega, by omega, Own.nil _ _ _ _, Nat.le_refl _, fun _ => by show 0 < 256; omega, HR.out, Chg.refl _ _⟩
  case round =>
    obtain ⟨i, m, rfl, hin, hk, hM, hml, hg, hRi, hC⟩ := hrel
    obtain ⟨mp, mc, hmv⟩ := hM.form
    subst hmv
    have HK := Lib.hid hk
    have HM := Lib.hid hM
    have HML := Lib.hid hml
    have HG := Lib.hid hg
    have HRi := Lib.hid hRi
    have HC := Lib.hid hC
    clear hk hM hg hRi hml
    by_cases hi : i < n
    · have t1 : decide ((i : Int) < n) = true := decide_eq_true (by omega)
      have t2 : decide (i < n) = true := decide_eq_true hi
      obtain ⟨f, hf⟩ : ∃ f, l[i]? = some f := ⟨l[i]'(by rw [HN.out]; exact hi), List.getElem?_eq_getElem _⟩
      have HSt := Lib.hid (replayF_step (g := thereM m) hf i)
      have HFo := Lib.hid (HO.out f (List.mem_of_getElem? hf))
      obtain ⟨-, p, c, hv, hnc, hr⟩ := HS.out
      cases hv
      obtain ⟨gb, off, rfl, hgS, hgl, hcell⟩ := hr (by omega)
      have hx : ∀ j, j < 16 → ∀ u, f.vs[j]? = some u → wr.cell? ⟨gb, off + (i * 16 + j), none⟩ = some u := fun j hj u hu => HC.out.cell (hcell (i * 16 + j) u ((fcells_get l i j f hf hj).trans hu)) id
      obtain ⟨step, node, page, ⟨done, ⟨op, rd, rs, rt, im⟩, pc, cause, access, addr, size, old, new⟩⟩ := f
      have x0 : wr.cell? ⟨gb, off + i * 16, none⟩ = some (.int .i64 step) := (congrArg (fun o => wr.cell? ⟨gb, o, none⟩) (by omega)).trans (hx 0 (by decide) _ rfl)
      have x1 : wr.cell? ⟨gb, off + i * 16 + 1, none⟩ = some (.int .i64 node) := (congrArg (fun o => wr.cell? ⟨gb, o, none⟩) (by omega)).trans (hx 1 (by decide) _ rfl)
      have x2 : wr.cell? ⟨gb, off + i * 16 + 2, none⟩ = some (.int .i64 page) := (congrArg (fun o => wr.cell? ⟨gb, o, none⟩) (by omega)).trans (hx 2 (by decide) _ rfl)
      have x3 : wr.cell? ⟨gb, off + i * 16 + 3, none⟩ = some (.bool done) := (congrArg (fun o => wr.cell? ⟨gb, o, none⟩) (by omega)).trans (hx 3 (by decide) _ rfl)
      have x4 : wr.cell? ⟨gb, off + i * 16 + 4, none⟩ = some (.int .i64 op) := (congrArg (fun o => wr.cell? ⟨gb, o, none⟩) (by omega)).trans (hx 4 (by decide) _ rfl)
      have x5 : wr.cell? ⟨gb, off + i * 16 + 5, none⟩ = some (.int .i64 rd) := (congrArg (fun o => wr.cell? ⟨gb, o, none⟩) (by omega)).trans (hx 5 (by decide) _ rfl)
      have x6 : wr.cell? ⟨gb, off + i * 16 + 6, none⟩ = some (.int .i64 rs) := (congrArg (fun o => wr.cell? ⟨gb, o, none⟩) (by omega)).trans (hx 6 (by decide) _ rfl)
      have x7 : wr.cell? ⟨gb, off + i * 16 + 7, none⟩ = some (.int .i64 rt) := (congrArg (fun o => wr.cell? ⟨gb, o, none⟩) (by omega)).trans (hx 7 (by decide) _ rfl)
      have x8 : wr.cell? ⟨gb, off + i * 16 + 8, none⟩ = some (.int .i64 im) := (congrArg (fun o => wr.cell? ⟨gb, o, none⟩) (by omega)).trans (hx 8 (by decide) _ rfl)
      have x9 : wr.cell? ⟨gb, off + i * 16 + 9, none⟩ = some (.int .u64 pc) := (congrArg (fun o => wr.cell? ⟨gb, o, none⟩) (by omega)).trans (hx 9 (by decide) _ rfl)
      have x10 : wr.cell? ⟨gb, off + i * 16 + 10, none⟩ = some (.int .i64 cause) := (congrArg (fun o => wr.cell? ⟨gb, o, none⟩) (by omega)).trans (hx 10 (by decide) _ rfl)
      have x11 : wr.cell? ⟨gb, off + i * 16 + 11, none⟩ = some (.int .i64 access) := (congrArg (fun o => wr.cell? ⟨gb, o, none⟩) (by omega)).trans (hx 11 (by decide) _ rfl)
      have x12 : wr.cell? ⟨gb, off + i * 16 + 12, none⟩ = some (.int .u64 addr) := (congrArg (fun o => wr.cell? ⟨gb, o, none⟩) (by omega)).trans (hx 12 (by decide) _ rfl)
      have x13 : wr.cell? ⟨gb, off + i * 16 + 13, none⟩ = some (.int .i64 size) := (congrArg (fun o => wr.cell? ⟨gb, o, none⟩) (by omega)).trans (hx 13 (by decide) _ rfl)
      have x14 : wr.cell? ⟨gb, off + i * 16 + 14, none⟩ = some (.int .u64 old) := (congrArg (fun o => wr.cell? ⟨gb, o, none⟩) (by omega)).trans (hx 14 (by decide) _ rfl)
      have x15 : wr.cell? ⟨gb, off + i * 16 + 15, none⟩ = some (.int .u64 new) := (congrArg (fun o => wr.cell? ⟨gb, o, none⟩) (by omega)).trans (hx 15 (by decide) _ rfl)
      have hbl := Nat.lt_of_lt_of_le hgl HC.out.size
      clear hx hr hcell hC
      go_upto_region 6 with fail
      have HBd : Blk ((wr.alloc (.cells #[.int .i64 step, .int .i64 node, .int .i64 page, .bool done, .int .i64 op, .int .i64 rd, .int .i64 rs, .int .i64 rt, .int .i64 im, .int .u64 pc, .int .i64 cause, .int .i64 access, .int .u64 addr, .int .i64 size, .int .u64 old, .int .u64 new] 86)).alloc (.cells #[.bool done, .int .i64 op, .int .i64 rd, .int .i64 rs, .int .i64 rt, .int .i64 im, .int .u64 pc, .int .i64 cause, .int .i64 access, .int .u64 addr, .int .i64 size, .int .u64 old, .int .u64 new] 84)) (wr.heap.size + 1) #[.bool done, .int .i64 op, .int .i64 rd, .int .i64 rs, .int .i64 rt, .int .i64 im, .int .u64 pc, .int .i64 cause, .int .i64 access, .int .u64 addr, .int .i64 size, .int .u64 old, .int .u64 new] 84 := by
        have := Blk.new (wr.alloc (.cells #[.int .i64 step, .int .i64 node, .int .i64 page, .bool done, .int .i64 op, .int .i64 rd, .int .i64 rs, .int .i64 rt, .int .i64 im, .int .u64 pc, .int .i64 cause, .int .i64 access, .int .u64 addr, .int .i64 size, .int .u64 old, .int .u64 new] 86)) #[.bool done, .int .i64 op, .int .i64 rd, .int .i64 rs, .int .i64 rt, .int .i64 im, .int .u64 pc, .int .i64 cause, .int .i64 access, .int .u64 addr, .int .i64 size, .int .u64 old, .int .u64 new] 84
        rwa [show (wr.alloc (.cells #[.int .i64 step, .int .i64 node, .int .i64 page, .bool done, .int .i64 op, .int .i64 rd, .int .i64 rs, .int .i64 rt, .int .i64 im, .int .u64 pc, .int .i64 cause, .int .i64 access, .int .u64 addr, .int .i64 size, .int .u64 old, .int .u64 new] 86)).heap.size = wr.heap.size + 1 by simp] at this
      have HC7 := Lib.hid (((Chg.refl NoB wr).alloc (.cells #[.int .i64 step, .int .i64 node, .int .i64 page, .bool done, .int .i64 op, .int .i64 rd, .int .i64 rs, .int .i64 rt, .int .i64 im, .int .u64 pc, .int .i64 cause, .int .i64 access, .int .u64 addr, .int .i64 size, .int .u64 old, .int .u64 new] 86)).alloc (.cells #[.bool done, .int .i64 op, .int .i64 rd, .int .i64 rs, .int .i64 rt, .int .i64 im, .int .u64 pc, .int .i64 cause, .int .i64 access, .int .u64 addr, .int .i64 size, .int .u64 old, .int .u64 new] 84))
      clear x0 x1 x2 x3 x4 x5 x6 x7 x8 x9 x10 x11 x12 x13 x14 x15 hbl
      obtain ⟨w7, hw7⟩ : ∃ x, (wr.alloc (.cells #[.int .i64 step, .int .i64 node, .int .i64 page, .bool done, .int .i64 op, .int .i64 rd, .int .i64 rs, .int .i64 rt, .int .i64 im, .int .u64 pc, .int .i64 cause, .int .i64 access, .int .u64 addr, .int .i64 size, .int .u64 old, .int .u64 new] 86)).alloc (.cells #[.bool done, .int .i64 op, .int .i64 rd, .int .i64 rs, .int .i64 rt, .int .i64 im, .int .u64 pc, .int .i64 cause, .int .i64 access, .int .u64 addr, .int .i64 size, .int .u64 old, .int .u64 new] 84) = x := ⟨_, rfl⟩
      rw [hw7] at HBd HC7
      simp only [hw7]
      clear hw7
      obtain ⟨fb, hfb⟩ : ∃ b, wr.heap.size = b := ⟨_, rfl⟩
      rw [hfb] at HBd
      simp only [hfb]
      have HFB := Lib.hid hfb
      clear hfb
      have g7 := HBd.ever
      have gl7 := HBd.everL
      have HSz : Hid (∀ w', Calls Tryz.prog 46 #[.int .i64 size] w' (RetW (.bool (sizeB size)) fun w'' => Chg NoB w' w'')) := Lib.hid fun w' => rSize_any size w'
      have c7 := Chg.refl NoB w7
      have HB7 := Lib.hid HBd
      clear HBd
      go_cut [32] (fun s32 wx => s32 = .bool (!(done && sizeB size)) ∧ Chg NoB w7 wx)
      case first =>
        obtain ⟨bs, hbs⟩ : ∃ b, sizeB size = b := ⟨_, rfl⟩
        rw [hbs] at HSz
        have HBS := Lib.hid hbs
        clear hbs
        cases done
        · go_wp2_with fail
          go_meet
          exact ⟨rfl, by with_reducible assumption⟩
        · cases bs <;>
          · go_wp2_with fail
            refine (HSz.out _).mono ?_
            rintro e w9 ⟨rfl, hC'⟩
            go_wp2_with fail
            go_meet
            exact ⟨by rw [HBS.out]; rfl, hC'⟩
      case rest =>
        obtain ⟨rfl, c8⟩ := hcut
        rename World => w8
        obtain ⟨ds, hds⟩ : ∃ b, (done && sizeB size) = b := ⟨_, rfl⟩
        have HDS := Lib.hid hds
        simp only [hds]
        clear hds g7 gl7 c7 HSz
        cases ds
        · have HFin : Hid (R = (i, false)) := Lib.hid (by
            rw [← HRi.out, HSt.out]
            have e : okD (thereM m) ⟨done, ⟨op, rd, rs, rt, im⟩, pc, cause, access, addr, size, old, new⟩ = false := by
              have := HDS.out
              unfold okD
              dsimp only
              cases done
              · rfl
              · rw [Bool.true_and] at this
                rw [this]
                rfl
            rw [e]
            rfl)
          have HW : Hid (Chg NoB w w8) := Lib.hid ((HC.out.step HC7.out).step c8)
          clear c8
          go_wp2_with fail
          go_ret2
          exact ⟨by rw [HFin.out]; rfl, HW.out⟩
        · have hds := HDS.out
          rw [Bool.and_eq_true] at hds
          obtain ⟨rfl, hsz⟩ := hds
          obtain ⟨s, rfl⟩ : ∃ s : Nat, size = s := ⟨size.toNat, by rcases sizeB_of hsz with e | e | e | e <;> omega⟩
          have s8 : 1 ≤ s ∧ s ≤ 8 := by rcases sizeB_of hsz with e | e | e | e <;> omega
          have HOk := Lib.hid (okD_at (thereM m) ⟨op, rd, rs, rt, im⟩ pc addr s old new cause access hsz)
          have HOld := Lib.hid (rBytesN_any old s hsz HFo.out.old)
          have HCut := Lib.hid (rCut_any old s hsz HFo.out.old)
          have HNew := Lib.hid (rBytesN_any new s hsz HFo.out.new)
          have HAd : Hid (addr < 18446744073709551616) := Lib.hid HFo.out.addr
          have HS8 := Lib.hid s8
          have c78 := c8
          have g8 : ∀ w', Chg NoB w8 w' → ∀ i, w'.cell? ⟨fb + 1, i, none⟩ = _ := fun w' c => HB7.out.ever w' (c78.step c)
          have gl8 : ∀ w', Chg NoB w8 w' → fb + 1 < w'.heap.size := fun w' c => HB7.out.everL w' (c78.step c)
          have c9 := Chg.refl NoB w8
          have HC8 := Lib.hid (HC7.out.step c8)
          clear c8 c78 HDS hsz s8
          go_wp2_with fail
          refine (HOld.out _).mono ?_
          rintro e w9 ⟨bv, rfl, hOb, C9⟩
          have hSb := hOb.sl
          obtain ⟨bp, bc', rfl⟩ := hSb.form
          obtain ⟨-, p2, cap2, hv2, hcap2, hsp2⟩ := hSb
          cases hv2
          obtain ⟨gB, offB, rfl, -, hgB, hcB⟩ := hsp2 (by have := HS8.out; omega)
          have HcB : Hid (∀ w', Chg NoB w9 w' → ∀ j, j < s → w'.cell? ⟨gB, offB + j, none⟩ = some (.int .u8 (old / 256 ^ j % 256 : Nat))) := Lib.hid fun w' c j hj => c.cell (hcB j _ (by
            unfold bc
            rw [List.getElem?_map, bytesW_get s old j hj]
            rfl)) id
          have glB : ∀ w', Chg NoB w9 w' → gB < w'.heap.size := fun w' c => Nat.lt_of_lt_of_le hgB c.size
          have g9 : ∀ w', Chg NoB w9 w' → ∀ i, w'.cell? ⟨fb + 1, i, none⟩ = _ := fun w' c => g8 w' (C9.step c)
          have gl9 : ∀ w', Chg NoB w9 w' → fb + 1 < w'.heap.size := fun w' c => gl8 w' (C9.step c)
          have HC9 := Lib.hid (HC8.out.step C9)
          clear hOb hsp2 hcB hgB g8 gl8 c9 C9
          have c9 := Chg.refl NoB w9
          go_wp2_with fail
          obtain ⟨tl, htl⟩ : ∃ b, tellB access op = b := ⟨_, rfl⟩
          have HTL := Lib.hid htl
          clear htl
          go_loopg [40] s (fun k jv wb => ∃ j : Nat, jv = .int .i64 j ∧ j ≤ s ∧ k = s - j ∧ (tl = true → ∀ r, r < j → thereM m (adr addr r) = old / 256 ^ r % 256) ∧ Chg NoB w9 wb)
          case atStart => exact ⟨0, rfl, by omega, by omega, fun _ r hr => by omega, Chg.refl _ _⟩
          case round =>
            obtain ⟨j, rfl, hjs, hk2, hAll, hCb⟩ := hrel
            rename World => wb
            have HK2 := Lib.hid hk2
            have HALL := Lib.hid hAll
            clear hk2 hAll
            by_cases hj : j < s
            · have t3 : decide ((j : Int) < s) = true := decide_eq_true (by omega)
              have t4 : decide (j < s) = true := decide_eq_true hj
              have y0 := HcB.out _ hCb j hj
              have y1 := glB _ hCb
              have HCB := Lib.hid hCb
              go_wp2_with fail
              obtain ⟨z, hz⟩ : ∃ z, adr addr j = z := ⟨_, rfl⟩
              have q1 : IntKind.u64.wrap ((addr : Int) + (j : Int)) = (z : Int) := by rw [← hz, IntKind.wrap_u64]; unfold adr; omega
              have q2 : IntKind.u64.wrap (j : Int) = (j : Int) := by rw [IntKind.wrap_u64]; have := HS8.out; omega
              have HZ := Lib.hid hz
              have s8b : s ≤ 8 := HS8.out.2
              have hmb : m.length ≤ 8000 := by have := HML.out; omega
              have hMb := ((HM.out.chg0 HC9.out).chg0 HCB.out).sl
              clear hz y0 y1
              go_loopg [10, 47] m.length (fun k tv qv wc => ∃ q : Nat, qv = .int .i64 q ∧ q ≤ m.length ∧ k = m.length - q ∧ tv = .int .u8 (thereM (m.take q) z) ∧ Chg NoB wb wc)
              case atStart => exact ⟨0, rfl, by omega, by omega, rfl, Chg.refl _ _⟩
              case round =>
                obtain ⟨q, rfl, hqm, hk3, rfl, hCc⟩ := hrel
                rename World => wc
                have HK3 := Lib.hid hk3
                have HMB := Lib.hid hMb
                clear hk3
                by_cases hq : q < m.length
                · have t5 : decide ((q : Int) < m.length) = true := decide_eq_true (by omega)
                  have t6 : decide (q < m.length) = true := decide_eq_true hq
                  obtain ⟨c, hc⟩ : ∃ c, m[q]? = some c := ⟨m[q]'hq, List.getElem?_eq_getElem _⟩
                  have HTk := Lib.hid (thereM_take hc z)
                  have hcg := cellsM_get m q c hc
                  obtain ⟨-, p3, cap3, hv3, hcap3, hsp3⟩ := hMb
                  cases hv3
                  obtain ⟨gM, offM, rfl, -, hgM, hcM⟩ := hsp3 (by omega)
                  have z0 := hCc.cell (hcM _ _ hcg.1) id
                  have z1 := hCc.cell (hcM _ _ hcg.2) id
                  rw [show offM + (q * 2 + 1) = offM + q * 2 + 1 by omega] at z1
                  have zl : gM < wc.heap.size := Nat.lt_of_lt_of_le hgM hCc.size
                  have g10 := g9 _ (hCb.step hCc)
                  have gl10 := gl9 _ (hCb.step hCc)
                  have HCC := Lib.hid hCc
                  clear hsp3 hcM hcg hgM hc hCc
                  generalize thereM (m.take q) z = x at *
                  obtain ⟨ca, cb⟩ := c
                  by_cases e : ca = z
                  · have HT1 := Lib.hid (HTk.out.trans (if_pos e))
                    clear HTk
                    subst e
                    go_wp2_with fail
                    go_roundg (m.length - (q + 1))
                    case rel => exact ⟨q + 1, by go_num, by omega, rfl, by rw [HT1.out], HCC.out.alloc _⟩
                    case measure => rw [HK3.out]; omega
                  · have e1 : decide ((ca : Int) = z) = false := decide_eq_false (by omega)
                    have e2 : ((ca : Int) == z) = false := by simp; omega
                    have HT1 := Lib.hid (HTk.out.trans (if_neg e))
                    clear e HTk
                    go_wp2_with fail
                    go_roundg (m.length - (q + 1))
                    case rel => exact ⟨q + 1, by go_num, by omega, rfl, by rw [HT1.out], HCC.out.alloc _⟩
                    case measure => rw [HK3.out]; omega
                · have t5 : decide ((q : Int) < m.length) = false := decide_eq_false (by omega)
                  have t6 : decide (q < m.length) = false := decide_eq_false hq
                  have eq : q = m.length := by omega
                  have g10 := g9 _ (hCb.step hCc)
                  have gl10 := gl9 _ (hCb.step hCc)
                  have HCC := Lib.hid (hCb.step hCc)
                  have HX : Hid (thereM (m.take q) z = thereM m z) := Lib.hid (by rw [eq, List.take_length])
                  rw [HX.out]
                  clear hMb eq hCc HX
                  have HZ2 : Hid (thereM m z = thereM m (adr addr j)) := Lib.hid (by rw [HZ.out])
                  obtain ⟨x, hx⟩ : ∃ x, thereM m z = x := ⟨_, rfl⟩
                  rw [hx] at HZ2
                  rw [hx]
                  clear hx
                  obtain ⟨y, hy⟩ : ∃ y, old / 256 ^ j % 256 = y := ⟨_, rfl⟩
                  have HY := Lib.hid hy
                  have hyI : (old : Int) / 256 ^ j % 256 = (y : Int) := by rw [← hy]; norm_cast
                  simp only [hyI]
                  clear hy hyI
                  by_cases e : x = y
                  · subst e
                    have e1 : ((x : Int) != (x : Int)) = false := by simp
                    go_wp2_with fail
                    go_roundg (s - (j + 1))
                    case rel => exact ⟨j + 1, by go_num, by omega, rfl, fun ht r hr => by
                      by_cases er : r = j
                      · subst er; exact HZ2.out.symm.trans HY.out.symm
                      · exact HALL.out ht r (by omega), HCC.out⟩
                    case measure => rw [HK2.out]; omega
                  · have e1 : ((x : Int) != (y : Int)) = true := by simp; omega
                    have e2 : decide ((x : Int) = (y : Int)) = false := decide_eq_false (by omega)
                    have HE := Lib.hid e
                    obtain ⟨b1, h1⟩ : ∃ b, (access == 1) = b := ⟨_, rfl⟩
                    obtain ⟨b2, h2⟩ : ∃ b, decide (30 ≤ op) = b := ⟨_, rfl⟩
                    have HV : Hid (tl = (b1 || b2)) := Lib.hid (by rw [← HTL.out]; unfold tellB; rw [h1, h2])
                    have h3 : decide (access = 1) = b1 := by rw [← h1]; rfl
                    have HNo : Hid (tl = true → R = (i, false)) := Lib.hid (fun ht => by
                      rw [← HRi.out, HSt.out, HOk.out]
                      have e1 : tellB access op = true := HTL.out.trans ht
                      have e2 : decide (getW (ldM (thereM m) addr) 0 s = old) = false := decide_eq_false (tell_no HG.out hj (by rw [← HZ2.out, HY.out]; exact HE.out))
                      show (if (!tellB access op || decide (getW (ldM (thereM m) addr) 0 s = old)) = true then _ else _) = _
                      rw [e1, e2]
                      rfl)
                    have HW : Hid (∀ w', Chg NoB w9 w' → Chg NoB w w') := Lib.hid (fun w' c => (HC.out.step HC9.out).step c)
                    clear e
                    cases b1
                    · cases b2
                      · go_wp2_with fail
                        go_roundg (s - (j + 1))
                        case rel => exact ⟨j + 1, by go_num, by omega, rfl, (fun ht => by rw [HV.out] at ht; cases ht), HCC.out⟩
                        case measure => rw [HK2.out]; omega
                      · go_wp2_with fail
                        go_ret2
                        exact ⟨by rw [HNo.out HV.out]; rfl, HW.out _ HCC.out⟩
                    · go_wp2_with fail
                      go_ret2
                      exact ⟨by rw [HNo.out HV.out]; rfl, HW.out _ HCC.out⟩
            · have t3 : decide ((j : Int) < s) = false := decide_eq_false (by omega)
              have t4 : decide (j < s) = false := decide_eq_false hj
              have ej : j = s := by omega
              have HAll : Hid (tl = true → ∀ r, r < s → thereM m (adr addr r) = old / 256 ^ r % 256) := Lib.hid (by rw [← ej]; exact HALL.out)
              have hWb := HC9.out.step hCb
              have g10 : ∀ w', Chg NoB wb w' → ∀ i, w'.cell? ⟨fb + 1, i, none⟩ = _ := fun w' c => g9 w' (hCb.step c)
              have gl10 : ∀ w', Chg NoB wb w' → fb + 1 < w'.heap.size := fun w' c => gl9 w' (hCb.step c)
              have HCB := Lib.hid hWb
              have c10 := Chg.refl NoB wb
              clear hCb c9 g9 gl9 glB ej hWb
              go_upto_region 21 with fail
              go_cut [96] (fun s96 wx => s96 = .bool (decide (old % 256 ^ s ≠ old) && tl) ∧ Chg NoB wb wx)
              case first =>
                have cD := c10.drew
                obtain ⟨x, hx⟩ : ∃ x, old % 256 ^ s = x := ⟨_, rfl⟩
                have HCt : Hid (∀ w', Calls Tryz.prog 48 #[.int .u64 old, .int .i64 s] w' (RetW (.int .u64 x) fun w'' => Chg NoB w' w'')) := Lib.hid (by rw [← hx]; exact HCut.out)
                have HX := Lib.hid hx
                clear hx
                by_cases e : x = old
                · subst e
                  have HV : Hid ((decide (x % 256 ^ s ≠ x) && tl) = false) := Lib.hid (by rw [HX.out]; simp)
                  have e1 : ((x : Int) != (x : Int)) = false := by simp
                  clear HX
                  refine wp_region_mix 7 [(true, 0), (true, 1), (true, 2), (true, 3), (true, 4), (true, 5), (false, 6)] (fun w' => Chg NoB wb w') (by kernel_rfl) (by kernel_rfl) (fun _ _ _ _ _ h => h) (cD) ?_
                  simp only [pickMix_nil, pickMix_cons, Option.getD_some, List.getElem?_toArray, List.getElem?_cons_zero, List.getElem?_cons_succ, List.cons_append, List.nil_append, List.drop_succ_cons, List.drop_zero]
                  iterate 6
                   refine wpMix_take rfl ?_
                   apply Exists.intro
                   refine ⟨fun wS hS => ?_, ?_⟩
                   · try dsimp only at hS
                     have cS := hS
                     go_simp
                     try rfl
                   simp only [Act.put, List.setIfInBounds_toArray, List.set_cons_zero, List.set_cons_succ]
                  refine wpMix_force rfl (fun K hK => ?_)
                  go_simp
                  refine (HCt.out _).mono ?_
                  rintro e w9 ⟨rfl, hC'⟩
                  have c9 := Chg.step (by with_reducible assumption : Chg NoB wb _) hC'
                  refine hK _ _ (by with_reducible assumption) ?_
                  clear hK K hC'
                  refine wpMix_nil ?_
                  go_wp2_with fail
                  go_meet
                  exact ⟨by first | (rw [HV.out]; rfl) | rw [HV.out], by with_reducible assumption⟩
                · have e1 : ((old : Int) != (x : Int)) = true := by simp; omega
                  have HE := Lib.hid e
                  clear e
                  obtain ⟨b1, h1⟩ : ∃ b, (access == 1) = b := ⟨_, rfl⟩
                  obtain ⟨b2, h2⟩ : ∃ b, decide (30 ≤ op) = b := ⟨_, rfl⟩
                  have HV : Hid ((decide (old % 256 ^ s ≠ old) && tl) = (b1 || b2)) := Lib.hid (by
                    rw [← HTL.out, HX.out, decide_eq_true HE.out]
                    unfold tellB
                    rw [h1, h2]
                    rfl)
                  cases b1
                  · cases b2
                    · skip
                      refine wp_region_mix 7 [(true, 0), (true, 1), (true, 2), (true, 3), (true, 4), (true, 5), (false, 6)] (fun w' => Chg NoB wb w') (by kernel_rfl) (by kernel_rfl) (fun _ _ _ _ _ h => h) (cD) ?_
                      simp only [pickMix_nil, pickMix_cons, Option.getD_some, List.getElem?_toArray, List.getElem?_cons_zero, List.getElem?_cons_succ, List.cons_append, List.nil_append, List.drop_succ_cons, List.drop_zero]
                      iterate 6
                       refine wpMix_take rfl ?_
                       apply Exists.intro
                       refine ⟨fun wS hS => ?_, ?_⟩
                       · try dsimp only at hS
                         have cS := hS
                         go_simp
                         try rfl
                       simp only [Act.put, List.setIfInBounds_toArray, List.set_cons_zero, List.set_cons_succ]
                      refine wpMix_force rfl (fun K hK => ?_)
                      go_simp
                      refine (HCt.out _).mono ?_
                      rintro e w9 ⟨rfl, hC'⟩
                      have c9 := Chg.step (by with_reducible assumption : Chg NoB wb _) hC'
                      refine hK _ _ (by with_reducible assumption) ?_
                      clear hK K hC'
                      refine wpMix_nil ?_
                      go_wp2_with fail
                      go_meet
                      exact ⟨by first | (rw [HV.out]; rfl) | rw [HV.out], by with_reducible assumption⟩
                    · skip
                      refine wp_region_mix 7 [(true, 0), (true, 1), (true, 2), (true, 3), (true, 4), (true, 5), (false, 6)] (fun w' => Chg NoB wb w') (by kernel_rfl) (by kernel_rfl) (fun _ _ _ _ _ h => h) (cD) ?_
                      simp only [pickMix_nil, pickMix_cons, Option.getD_some, List.getElem?_toArray, List.getElem?_cons_zero, List.getElem?_cons_succ, List.cons_append, List.nil_append, List.drop_succ_cons, List.drop_zero]
                      iterate 6
                       refine wpMix_take rfl ?_
                       apply Exists.intro
                       refine ⟨fun wS hS => ?_, ?_⟩
                       · try dsimp only at hS
                         have cS := hS
                         go_simp
                         try rfl
                       simp only [Act.put, List.setIfInBounds_toArray, List.set_cons_zero, List.set_cons_succ]
                      refine wpMix_force rfl (fun K hK => ?_)
                      go_simp
                      refine (HCt.out _).mono ?_
                      rintro e w9 ⟨rfl, hC'⟩
                      have c9 := Chg.step (by with_reducible assumption : Chg NoB wb _) hC'
                      refine hK _ _ (by with_reducible assumption) ?_
                      clear hK K hC'
                      refine wpMix_nil ?_
                      go_wp2_with fail
                      go_meet
                      exact ⟨by first | (rw [HV.out]; rfl) | rw [HV.out], by with_reducible assumption⟩
                  · skip
                    refine wp_region_mix 7 [(true, 0), (true, 1), (true, 2), (true, 3), (true, 4), (true, 5), (false, 6)] (fun w' => Chg NoB wb w') (by kernel_rfl) (by kernel_rfl) (fun _ _ _ _ _ h => h) (cD) ?_
                    simp only [pickMix_nil, pickMix_cons, Option.getD_some, List.getElem?_toArray, List.getElem?_cons_zero, List.getElem?_cons_succ, List.cons_append, List.nil_append, List.drop_succ_cons, List.drop_zero]
                    iterate 6
                     refine wpMix_take rfl ?_
                     apply Exists.intro
                     refine ⟨fun wS hS => ?_, ?_⟩
                     · try dsimp only at hS
                       have cS := hS
                       go_simp
                       try rfl
                     simp only [Act.put, List.setIfInBounds_toArray, List.set_cons_zero, List.set_cons_succ]
                    refine wpMix_force rfl (fun K hK => ?_)
                    go_simp
                    refine (HCt.out _).mono ?_
                    rintro e w9 ⟨rfl, hC'⟩
                    have c9 := Chg.step (by with_reducible assumption : Chg NoB wb _) hC'
                    refine hK _ _ (by with_reducible assumption) ?_
                    clear hK K hC'
                    refine wpMix_nil ?_
                    go_wp2_with fail
                    go_meet
                    exact ⟨by first | (rw [HV.out]; rfl) | rw [HV.out], by with_reducible assumption⟩
              case rest =>
                obtain ⟨rfl, c11⟩ := hcut
                rename World => wd
                obtain ⟨bq, hbq⟩ : ∃ b, (decide (old % 256 ^ s ≠ old) && tl) = b := ⟨_, rfl⟩
                have HBQ := Lib.hid hbq
                simp only [hbq]
                have HWd := Lib.hid (HCB.out.step c11)
                clear hbq
                cases bq
                · have HNx : Hid (replayF (nextD (thereM m) ⟨true, ⟨op, rd, rs, rt, im⟩, pc, cause, access, addr, s, old, new⟩) (l.drop (i + 1)) (i + 1) = R) := Lib.hid (by
                    rw [← HRi.out, HSt.out, HOk.out]
                    have e : (!tellB access op || decide (getW (ldM (thereM m) addr) 0 s = old)) = true := by
                      rw [HTL.out]
                      cases tl
                      · rfl
                      · have := HBQ.out
                        rw [Bool.and_true, decide_eq_false_iff_not, Decidable.not_not] at this
                        rw [decide_eq_true (tell_yes (HAll.out rfl) this)]
                        rfl
                    show _ = if (!tellB access op || decide (getW (ldM (thereM m) addr) 0 s = old)) = true then _ else _
                    rw [e]
                    rfl)
                  have HMd : Hid (Own wd (fun k => w.heap.size ≤ k ∧ k < fb) 99 2 (.slice mp m.length mc) m.length (cellsM m)) := Lib.hid ((HM.out.monoIn fun k hk h => ⟨h, by rw [← HFB.out]; exact hk⟩).chg0 HWd.out)
                  have HGn := Lib.hid (nextD_ok HG.out ⟨true, ⟨op, rd, rs, rt, im⟩, pc, cause, access, addr, s, old, new⟩)
                  have gd : ∀ w', Chg NoB wd w' → ∀ i, w'.cell? ⟨fb + 1, i, none⟩ = _ := fun w' c => g10 w' (c11.step c)
                  have gld : ∀ w', Chg NoB wd w' → fb + 1 < w'.heap.size := fun w' c => gl10 w' (c11.step c)
                  have cd := Chg.refl NoB wd
                  clear c11 c10 g10 gl10
                  go_wp2_with fail
                  refine (HNew.out _).mono ?_
                  rintro e we ⟨bn, rfl, hOn, Ce⟩
                  have hSn := hOn.sl
                  obtain ⟨bnp, bnc, rfl⟩ := hSn.form
                  obtain ⟨-, p4, cap4, hv4, hcap4, hsp4⟩ := hSn
                  cases hv4
                  obtain ⟨gN, offN, rfl, hgN0, hgN, hcN⟩ := hsp4 (by have := HS8.out; omega)
                  have hfd : fb + 1 < wd.heap.size := gld _ cd
                  have hfe : fb + 1 < we.heap.size := gld _ Ce
                  have HcN : Hid (∀ w', Chg (fun k => (w.heap.size ≤ k ∧ k < fb) ∨ we.heap.size ≤ k) we w' → ∀ j, j < s → w'.cell? ⟨gN, offN + j, none⟩ = some (.int .u8 (new / 256 ^ j % 256 : Nat))) := Lib.hid fun w' c j hj => c.cell (hcN j _ (by
                    unfold bc
                    rw [List.getElem?_map, bytesW_get s new j hj]
                    rfl)) (fun e => by
                    have : wd.heap.size ≤ gN := hgN0
                    have e : (w.heap.size ≤ gN ∧ gN < fb) ∨ we.heap.size ≤ gN := e
                    rcases e with e | e <;> omega)
                  have HlN : Hid (∀ w', Chg (fun k => (w.heap.size ≤ k ∧ k < fb) ∨ we.heap.size ≤ k) we w' → gN < w'.heap.size) := Lib.hid fun w' c => Nat.lt_of_lt_of_le hgN c.size
                  have HgD : Hid (∀ w', Chg (fun k => (w.heap.size ≤ k ∧ k < fb) ∨ we.heap.size ≤ k) we w' → ∀ i u, #[.bool true, .int .i64 op, .int .i64 rd, .int .i64 rs, .int .i64 rt, .int .i64 im, .int .u64 pc, .int .i64 cause, .int .i64 access, .int .u64 addr, .int .i64 s, .int .u64 old, .int .u64 new][i]? = some u → w'.cell? ⟨fb + 1, i, none⟩ = some u) := Lib.hid fun w' c i u hu => c.cell ((gd _ Ce i).trans hu) (fun e => by
                    have e : (w.heap.size ≤ fb + 1 ∧ fb + 1 < fb) ∨ we.heap.size ≤ fb + 1 := e
                    rcases e with e | e <;> omega)
                  have HlD : Hid (∀ w', Chg (fun k => (w.heap.size ≤ k ∧ k < fb) ∨ we.heap.size ≤ k) we w' → fb + 1 < w'.heap.size) := Lib.hid fun w' c => Nat.lt_of_lt_of_le hfe c.size
                  have HWe := Lib.hid ((HC.out.step HWd.out).step Ce)
                  have HMe := Lib.hid ((HMd.out.chg0 Ce).mono (S' := fun k => (w.heap.size ≤ k ∧ k < fb) ∨ we.heap.size ≤ k) fun k h => .inl h)
                  have HFE := Lib.hid hfe
                  have s8b : s ≤ 8 := HS8.out.2
                  have hmb : m.length ≤ 8000 := by have := HML.out; omega
                  clear hOn hsp4 hcN hgN hgN0 gd gld cd Ce hfd hfe
                  go_wp2_with fail
                  by_cases ha : access = 2
                  · have HNx : Hid (replayF (thereM (m ++ newM addr new s)) (l.drop (i + 1)) (i + 1) = R) := Lib.hid (by
                      rw [← HNx.out, thereM_new]
                      unfold nextD
                      dsimp only
                      rw [if_pos ha, Int.toNat_natCast])
                    have HGn : Hid (∀ x, thereM (m ++ newM addr new s) x < 256) := Lib.hid (by
                      rw [thereM_new]
                      exact stM_ok HG.out _ _ _)
                    have h1 : (access == 2) = true := by simpa using ha
                    have h3 : decide (access = 2) = true := by simpa using ha
                    clear ha
                    go_loopg [4, 104] s (fun k mv jv wx => ∃ j : Nat, jv = .int .i64 j ∧ j ≤ s ∧ k = s - j ∧ Own wx (fun k => (w.heap.size ≤ k ∧ k < fb) ∨ we.heap.size ≤ k) 99 2 mv (m.length + j) (cellsM (m ++ newM addr new j)) ∧ Chg (fun k => (w.heap.size ≤ k ∧ k < fb) ∨ we.heap.size ≤ k) we wx)
                    case atStart => exact ⟨0, rfl, by omega, by omega, by show Own _ _ _ _ _ _ (cellsM (m ++ [])); rw [List.append_nil]; exact HMe.out, Chg.refl _ _⟩
                    case round =>
                      obtain ⟨j, rfl, hjs, hk4, hOj, hCx⟩ := hrel
                      rename World => wx
                      obtain ⟨mp2, mc2, hmv2⟩ := hOj.form
                      subst hmv2
                      have HK4 := Lib.hid hk4
                      have HOJ := Lib.hid hOj
                      have HCX := Lib.hid hCx
                      clear hk4 hOj
                      by_cases hj : j < s
                      · have t3 : decide ((j : Int) < s) = true := decide_eq_true (by omega)
                        have t4 : decide (j < s) = true := decide_eq_true hj
                        have y0 := HcN.out _ hCx j hj
                        have y1 := HlN.out _ hCx
                        have y2 := HgD.out _ hCx 8 _ rfl
                        have y3 := HlD.out _ hCx
                        have y4 := HgD.out _ hCx 9 _ rfl
                        have HSnoc : Hid (m ++ newM addr new (j + 1) = (m ++ newM addr new j) ++ [(adr addr j, new / 256 ^ j % 256)]) := Lib.hid (by rw [List.append_assoc]; rfl)
                        obtain ⟨y, hy⟩ : ∃ y, new / 256 ^ j % 256 = y := ⟨_, rfl⟩
                        obtain ⟨z, hz⟩ : ∃ z, adr addr j = z := ⟨_, rfl⟩
                        have q1 : IntKind.u64.wrap ((addr : Int) + (j : Int)) = (z : Int) := by rw [← hz, IntKind.wrap_u64]; unfold adr; omega
                        have q2 : IntKind.u64.wrap (j : Int) = (j : Int) := by rw [IntKind.wrap_u64]; omega
                        rw [hy] at y0 HSnoc
                        rw [hz] at HSnoc
                        have cA := (Chg.refl NoB wx).alloc (.cells #[.int .u64 z, .int .u8 y] 99)
                        have oA := HOJ.out.chg0 cA
                        have sB := (Own.fresh wx [.int .u64 z, .int .u8 y] 99 1 rfl (by unfold maxLen; omega) : Own _ _ _ 2 _ _ _).sl
                        have one1 : ∀ u ∈ [Value.int .u64 z, Value.int .u8 y], u.oneCell' = true := by simp [Value.oneCell']
                        have b1 : m.length + j + 1 ≤ maxLen := by unfold maxLen; omega
                        have b2 : (m.length + j + 1) * 16 ≤ 140737488355328 := by omega
                        obtain ⟨i0, hi0, hz0, hz1, hz2⟩ := info_parts cell_info
                        have HCA := Lib.hid cA
                        clear hy hz cA hCx
                        go_wp2_with (at_builtin; go_must (refine wpList_app rfl _ _ 96 rfl i0 _ 16 Tryz.underlying96 hi0 hz0 hz1 hz2 rfl rfl oA _ 1 _ rfl sB one1 b1 b2 ?_))
                        intro v4 w4 o4 g4 _
                        have HO4 := Lib.hid o4
                        have HG4 := Lib.hid g4
                        clear oA sB one1 b1 b2 hi0 hz0 hz1 hz2 o4 g4 y0 y1 y2 y3 y4
                        go_wp2_with fail
                        go_roundg (s - (j + 1))
                        case rel =>
                          refine ⟨j + 1, by go_num, by omega, rfl, ?_, ?_⟩
                          · rw [HSnoc.out, cellsM_snoc]
                            refine HO4.out.mono fun k hk => ?_
                            rcases hk with hk | hk
                            · exact (HOJ.out.ownBlock k hk).1
                            · refine .inr ?_
                              rw [hk]
                              exact Nat.le_succ_of_le HCX.out.size
                          · refine (HCX.out.trans HCA.out fun _ _ e => e.elim).trans (grown_chg (S := fun k => (Value.slice mp2 (m.length + j) mc2).ownBlock = some k) HG4.out fun k hk => hk) fun k hk e => ?_
                            exact (HOJ.out.ownBlock k e).1
                        case measure => rw [HK4.out]; omega
                      · have t3 : decide ((j : Int) < s) = false := decide_eq_false (by omega)
                        have t4 : decide (j < s) = false := decide_eq_false hj
                        have ej : j = s := by omega
                        subst ej
                        have HFin := Lib.hid (HOJ.out.mono (S' := fun k => w.heap.size ≤ k) fun k h => by
                          have := HWe.out.size
                          rcases h with h | h <;> omega)
                        have HWx : Hid (Chg NoB w wx) := Lib.hid (HWe.out.trans HCX.out fun k hk e => by
                          have := HWe.out.size
                          rcases e with e | e <;> omega)
                        clear hCx
                        go_wp2_with fail
                        go_roundg (n - (i + 1))
                        case rel => exact ⟨i + 1, m ++ newM addr new j, by go_num, by omega, rfl, by rw [List.length_append, newM_len]; exact HFin.out, by rw [List.length_append, newM_len]; have := HML.out; omega, HGn.out, HNx.out, HWx.out⟩
                        case measure => rw [HK.out]; omega
                  · have HNx : Hid (replayF (thereM m) (l.drop (i + 1)) (i + 1) = R) := Lib.hid (by
                      have := HNx.out
                      unfold nextD at this
                      dsimp only at this
                      rwa [if_neg ha] at this)
                    have h1 : (access == 2) = false := by simpa using ha
                    have h3 : decide (access = 2) = false := by simpa using ha
                    clear ha
                    go_loopg [4, 104] s (fun k mv jv wx => ∃ j : Nat, jv = .int .i64 j ∧ j ≤ s ∧ k = s - j ∧ mv = .slice mp m.length mc ∧ wx = we)
                    case atStart => exact ⟨0, rfl, by omega, by omega, rfl, rfl⟩
                    case round =>
                      obtain ⟨j, rfl, hjs, hk4, rfl, rfl⟩ := hrel
                      rename World => wx
                      have HK4 := Lib.hid hk4
                      clear hk4
                      have hCx := Chg.refl (fun k => (w.heap.size ≤ k ∧ k < fb) ∨ wx.heap.size ≤ k) wx
                      by_cases hj : j < s
                      · have t3 : decide ((j : Int) < s) = true := decide_eq_true (by omega)
                        have t4 : decide (j < s) = true := decide_eq_true hj
                        have y0 := HcN.out _ hCx j hj
                        have y1 := HlN.out _ hCx
                        have y2 := HgD.out _ hCx 8 _ rfl
                        have y3 := HlD.out _ hCx
                        clear hCx
                        go_wp2_with fail
                        go_roundg (s - (j + 1))
                        case rel => exact ⟨j + 1, by go_num, by omega, rfl, rfl, rfl⟩
                        case measure => rw [HK4.out]; omega
                      · have t3 : decide ((j : Int) < s) = false := decide_eq_false (by omega)
                        have t4 : decide (j < s) = false := decide_eq_false hj
                        have HFin := Lib.hid ((HMe.out).mono (S' := fun k => w.heap.size ≤ k) fun k h => by
                          have := HWe.out.size
                          rcases h with h | h <;> omega)
                        clear hCx
                        go_wp2_with fail
                        go_roundg (n - (i + 1))
                        case rel => exact ⟨i + 1, m, by go_num, by omega, rfl, HFin.out, by have := HML.out; omega, HG.out, HNx.out, HWe.out⟩
                        case measure => rw [HK.out]; omega
                · have HNo : Hid (R = (i, false)) := Lib.hid (by
                    rw [← HRi.out, HSt.out, HOk.out]
                    have := HBQ.out
                    rw [Bool.and_eq_true, decide_eq_true_eq] at this
                    have e1 : tellB access op = true := HTL.out.trans this.2
                    have e2 : decide (getW (ldM (thereM m) addr) 0 s = old) = false := decide_eq_false (tell_cut HG.out this.1)
                    show (if (!tellB access op || decide (getW (ldM (thereM m) addr) 0 s = old)) = true then _ else _) = _
                    rw [e1, e2]
                    rfl)
                  clear c11 c10 g10 gl10
                  go_wp2_with fail
                  go_ret2
                  exact ⟨by rw [HNo.out]; rfl, HC.out.step HWd.out⟩
    · have t1 : decide ((i : Int) < n) = false := decide_eq_false (by omega)
      have t2 : decide (i < n) = false := decide_eq_false hi
      have HFin : Hid (R = (n, true)) := Lib.hid (by
        rw [← HRi.out, List.drop_eq_nil_of_le (by rw [HN.out]; omega), show i = n by omega]
        rfl)
      obtain ⟨-, p, c, hv, hnc, hr⟩ := HS.out
      cases hv
      clear hr hC
      go_wp2_with fail
      go_ret2
      exact ⟨by rw [HFin.out]; rfl, HC.out⟩
end Go.Proofs.YtleilfkcjollaaaGreat
