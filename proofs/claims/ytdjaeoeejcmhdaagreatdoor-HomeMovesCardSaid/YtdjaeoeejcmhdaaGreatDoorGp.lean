/- Spaces: pages that are mapped from the beginning on. No condition. The buffer of entries in memory; finding in it. No condition. -/
import Derived.Test.YtdjaeoeejcmhdaaGreatDoorGg
import Derived.Test.YtdjaeoeejcmhdaaGreatDoorGn
import Derived.Test.YtdjaeoeejcmhdaaGreatDoorGf
import Derived.Test.YtdjaeoeejcmhdaaGreatDoorGa
set_option linter.unusedVariables false
set_option linter.unusedSimpArgs false
namespace Go.Proofs.YtdjaeoeejcmhdaaGreatDoor
open Go.RowKit Go.RR
theorem INTinfo' : (Tryz.prog.info? 3).map (fun i => (i.zero, i.size, i.bytes)) = some (some (.int .i64 0), 1, 8) := by kernel_rfl
/-- A frame is taken, not for a table. -/
def Tst.tk (t : Tst) : Tst := { t with s := { t.s with next := t.s.next + 1, taken := addN t.s.taken t.s.next } }
def LayOk (fr root base : Nat) (e : Nat → Pte) : Nat → Nat → Tst → Prop
  | 0, _, _ => True
  | n + 1, i, t => t.s.next < t.s.fin ∧ LedOk fr root t.tk (base + i * 4096) ∧ (mapF root t.tk (base + i * 4096) (e t.s.next)).1 = 0 ∧ LayOk fr root base e n (i + 1) (mapF root t.tk (base + i * 4096) (e t.s.next)).2
theorem layF_step {fr root base : Nat} {e : Nat → Pte} {n i : Nat} {t : Tst} (h : LayOk fr root base e (n + 1) i t) (out : List Nat) :
    layF root base e (n + 1) i t out = layF root base e n (i + 1) (mapF root t.tk (base + i * 4096) (e t.s.next)).2 (out ++ [t.s.next]) := by
  obtain ⟨h1, -, h2, -⟩ := h
  have ht : t.s.take = some (t.s.next, { t.s with next := t.s.next + 1, taken := addN t.s.taken t.s.next }) := by unfold Stk.take; rw [if_pos h1]
  show (match t.s.take with
    | none => _
    | some (f, s') => _) = _
  rw [ht]
  dsimp only
  have h2' : (mapF root { t with s := { t.s with next := t.s.next + 1, taken := addN t.s.taken t.s.next } } (base + i * 4096) (e t.s.next)).1 = 0 := h2
  rw [if_neg (by rw [h2']; simp)]
  rfl
def ints (l : List Nat) : List Value := l.map fun f : Nat => .int .i64 f
structure EntOk (txt : ByteArray) (e : Nat → Pte) : Prop where
  call : ∀ f : Nat, f < 17592186044416 → ∀ w', Calls Tryz.prog 82 #[.string txt, .int .i64 f] w' (RetW (.agg #[.bool (e f).v, .bool (e f).r, .bool (e f).w, .bool (e f).x, .bool (e f).u, .bool (e f).g, .bool (e f).a, .bool (e f).d, .int .i64 (e f).rsw, .int .u64 (e f).ppn]) fun w'' => Chg NoB w' w'')
  ok : ∀ f : Nat, f < 17592186044416 → (e f).Ok
  right : ∀ f, rightP8 (e f) = true
  leaf : ∀ f, leafB (e f) = true
theorem ent_code : EntOk ⟨#[118, 114, 45, 120, 117, 45, 97, 45]⟩ codeP := ⟨fun f hf w' => entry_code f hf w', fun f hf => ⟨by show (0 : Int) ≤ 0; omega, by show (0 : Int) < 4; omega, hf⟩, fun _ => rfl, fun _ => rfl⟩
theorem ent_own : EntOk ⟨#[118, 114, 119, 45, 117, 45, 97, 100]⟩ ownP := ⟨fun f hf w' => entry_own f hf w', fun f hf => ⟨by show (0 : Int) ≤ 0; omega, by show (0 : Int) < 4; omega, hf⟩, fun _ => rfl, fun _ => rfl⟩
theorem ent_read : EntOk ⟨#[118, 114, 45, 45, 117, 45, 97, 45]⟩ readP := ⟨fun f hf w' => entry_read f hf w', fun f hf => ⟨by show (0 : Int) ≤ 0; omega, by show (0 : Int) < 4; omega, hf⟩, fun _ => rfl, fun _ => rfl⟩
/-- Behind a frame that the space takes. -/
theorem TabAt.took {SM : Nat → Prop} {w w' : World} {mb fr sb mp tb root : Nat} {t : Tst} (h : TabAt w SM mb fr sb mp tb root t) (hlt : t.s.next < t.s.fin) (hs : StkAt w' sb mp { t.s with next := t.s.next + 1, taken := addN t.s.taken t.s.next }) (c : Chg (fun k => k = sb ∨ k = mp) w w') :
    TabAt w' SM mb fr sb mp tb root t.tk :=
  ⟨h.mem.chg c fun k hk e => e.elim (fun e => h.n1 (e ▸ hk)) fun e => h.n2 (e ▸ hk), hs, c.blk h.tab fun e => e.elim h.n4 h.n5, h.n1, h.n2, h.n3, h.n4, h.n5, ⟨hlt, h.ok.fin⟩, Nat.le_succ_of_le h.us, h.fr⟩
/-- While pages are laid: the memory's blocks, the list of frames. -/
structure LayAt (w wr : World) (SM SMi : Nat → Prop) (pb mb fr sb mp tb root : Nat) (cs : Array Value) (t : Tst) (v : Value) (out : List Nat) : Prop where
  tab : TabAt wr SMi mb fr sb mp tb root t
  bd : ∀ k, SMi k → k < wr.heap.size ∧ (SM k ∨ w.heap.size ≤ k)
  out : Own wr (fun k => w.heap.size ≤ k ∧ ¬ SMi k) 3 1 v out.length (ints out)
  blk : Blk wr pb cs 84
  chg : Chg (TS SM sb mp tb) w wr
theorem LayAt.next {w wr w1 w3 : World} {SM SMi : Nat → Prop} {pb mb fr sb mp tb root : Nat} {cs : Array Value} {t t0 t3 : Tst} {v : Value} {out : List Nat} (h : LayAt w wr SM SMi pb mb fr sb mp tb root cs t v out)
    (h0 : TabAt w SM mb fr sb mp tb root t0) (hp : pb < w.heap.size ∧ ¬ SM pb ∧ pb ≠ sb ∧ pb ≠ mp ∧ pb ≠ tb)
    (h3 : TabAt w3 (Grow SMi w1) mb fr sb mp tb root t3) (c1 : Chg (fun k => k = sb ∨ k = mp) wr w1) (c3 : Chg (TS SMi sb mp tb) w1 w3) :
    LayAt w w3 SM (fun k => (SMi k ∨ w1.heap.size ≤ k) ∧ k < w3.heap.size) pb mb fr sb mp tb root cs t3 v out := by
  have hsb := h0.stk.blk.lt
  have hmp := h0.stk.map.lt
  have htb := h0.tab.lt
  have hz := h.chg.size
  have hz1 := c1.size
  have hnp : ¬ SMi pb := fun e => ((h.bd pb e).2.elim hp.2.1 fun e => by omega)
  refine ⟨h3.mono fun k hk => ⟨fun e => ⟨e, hk⟩, fun e => e.1⟩, fun k hk => ⟨hk.2, hk.1.elim (fun e => (h.bd k e).2) fun e => .inr (by omega)⟩, ?_, c3.blk (c1.blk h.blk fun e => e.elim hp.2.2.1 hp.2.2.2.1) fun e => e.elim hnp fun e => e.elim hp.2.2.1 fun e => e.elim hp.2.2.2.1 hp.2.2.2.2, ?_⟩
  · refine (((h.out.monoIn (S' := fun k => (w.heap.size ≤ k ∧ ¬ SMi k) ∧ k < wr.heap.size) fun k hk e => ⟨e, hk⟩).chg c1 fun k hk e => ?_).chg c3 fun k hk e => ?_).monoIn fun k _ hk => ?_
    · rcases e with e | e <;> omega
    · rcases e with e | e | e | e
      · exact hk.1.2 e
      all_goals omega
    · exact ⟨hk.1.1, fun e => e.1.elim hk.1.2 fun e => by omega⟩
  · refine (h.chg.trans c1 fun k _ e => ?_).trans c3 fun k hk e => ?_
    · exact e.elim (fun e => .inr (.inl e)) fun e => .inr (.inr (.inl e))
    · exact e.elim (fun e => (h.bd k e).2.elim .inl fun e => by omega) fun e => .inr e
theorem LayAt.push {w wr w2 w3 : World} {SM SMi : Nat → Prop} {pb mb fr sb mp tb root : Nat} {cs : Array Value} {t t0 : Tst} {v v' : Value} {out : List Nat} {f : Nat} (h : LayAt w wr SM SMi pb mb fr sb mp tb root cs t v out)
    (h0 : TabAt w SM mb fr sb mp tb root t0) (hp : pb < w.heap.size) (c2 : Chg NoB wr w2)
    (ho : Own w3 (fun k => v.ownBlock = some k ∨ k = w2.heap.size) 3 1 v' (out.length + 1) (ints out ++ [.int .i64 f])) (hg : w2.grownBy w3 v.ownBlock) :
    LayAt w w3 SM SMi pb mb fr sb mp tb root cs t v' (out ++ [f]) := by
  have hsb := h0.stk.blk.lt
  have hmp := h0.stk.map.lt
  have htb := h0.tab.lt
  have hz := h.chg.size
  have hz2 := c2.size
  have hob := h.out.ownBlock
  have c3 : Chg (fun k => v.ownBlock = some k) w2 w3 := (Chg.refl _ w2).grown hg fun k hk => .inl hk
  have hs : ∀ k, v.ownBlock = some k → ¬ SMi k ∧ w.heap.size ≤ k := fun k e => ⟨(hob k e).1.2, (hob k e).1.1⟩
  refine ⟨(h.tab.chg0 c2).chg c3 fun k hk e => ?_, fun k hk => ⟨Nat.lt_of_lt_of_le (h.bd k hk).1 (Nat.le_trans c2.size c3.size), (h.bd k hk).2⟩, ?_, c3.blk (c2.blk0 h.blk) fun e => ?_, (h.chg.then0 c2).trans c3 fun k hk e => ?_⟩
  · rcases hk with hk | hk | hk | hk
    · exact (hs k e).1 hk
    all_goals have := (hs k e).2; omega
  · rw [List.length_append, show ints (out ++ [f]) = ints out ++ [.int .i64 f] by unfold ints; simp]
    refine ho.mono fun k hk => ?_
    rcases hk with hk | hk
    · exact ⟨(hs k hk).2, (hs k hk).1⟩
    · exact ⟨by omega, fun e => by have := (h.bd k e).1; omega⟩
  · have := (hs pb e).2; omega
  · have := (hs k e).2; omega
set_option maxHeartbeats 4000000 in
set_option maxRecDepth 100000 in
theorem lay_any {SM : Nat → Prop} {w : World} {pb mb fr sb mp tb root : Nat} {t : Tst} {cs : Array Value} (h : TabAt w SM mb fr sb mp tb root t) (hbd : ∀ k, SM k → k < w.heap.size) (hb : Blk w pb cs 84) (hp : ¬ SM pb ∧ pb ≠ sb ∧ pb ≠ mp ∧ pb ≠ tb)
    (hc4 : cs[4]? = some (.pointer (some ⟨sb, 0, none⟩))) (hc5 : cs[5]? = some (.pointer (some ⟨tb, 0, none⟩))) (base n : Nat) (txt : ByteArray) (e : Nat → Pte) (he : EntOk txt e) (hn : n ≤ 1000) (hbase : base + n * 4096 ≤ 1073741824) (hL : LayOk fr root base e n 0 t) :
    Calls Tryz.prog 37 #[.pointer (some ⟨pb, 0, none⟩), .int .u64 base, .int .i64 n, .string txt] w (RetV fun v w' => ∃ (x : Value) (SMi : Nat → Prop), v = .tuple #[x, .int .i64 0] ∧ (layF root base e n 0 t []).1.2 = 0 ∧ LayAt w w' SM SMi pb mb fr sb mp tb root cs (layF root base e n 0 t []).2 x (layF root base e n 0 t []).1.1) := by
  have HH := Lib.hid h
  have HP : Hid (pb < w.heap.size ∧ ¬ SM pb ∧ pb ≠ sb ∧ pb ≠ mp ∧ pb ≠ tb) := Lib.hid ⟨hb.lt, hp⟩
  have HE := Lib.hid he
  have HN := Lib.hid hn
  have HCS := Lib.hid (And.intro hc4 hc5)
  have HL0 : Hid (LayAt w w SM SM pb mb fr sb mp tb root cs t (.slice none 0 0) []) := Lib.hid ⟨h, fun k hk => ⟨hbd k hk, .inl hk⟩, Own.nil _ _ _ _, hb, Chg.refl _ _⟩
  obtain ⟨R, hR⟩ : ∃ R, layF root base e n 0 t [] = R := ⟨_, rfl⟩
  rw [hR]
  have HR := Lib.hid hR
  have HLL := Lib.hid hL
  have hroot := h.fr
  clear h hbd hb hp hc4 hc5 he hR hL
  go_enter Tryz.func37, Tryz.ntmps37
  go_wp2_with fail
  go_loopg [16, 10] n (fun k v o wr => ∃ (i : Nat) (t' : Tst) (out : List Nat) (SMi : Nat → Prop), v = .int .i64 i ∧ i ≤ n ∧ k = n - i ∧ out.length = i ∧ layF root base e (n - i) i t' out = R ∧ LayOk fr root base e (n - i) i t' ∧ LayAt w wr SM SMi pb mb fr sb mp tb root cs t' o out)
  case atStart => exact ⟨0, t, [], SM, rfl, by omega, by omega, rfl, HR.out, HLL.out, HL0.out⟩
  case round =>
    obtain ⟨i, t', out, SMi, rfl, hin, hk, hol, hRi, hLi, hA⟩ := hrel
    have HK := Lib.hid hk
    have HA := Lib.hid hA
    have HRi := Lib.hid hRi
    have HOL := Lib.hid hol
    clear hk hRi hol HL0 HLL HR
    obtain ⟨op, oc, ho⟩ := hA.out.form
    subst ho
    by_cases hi : i < n
    · have t1 : decide ((i : Int) < n) = true := decide_eq_true (by omega)
      have t2 : decide (i < n) = true := decide_eq_true hi
      obtain ⟨m, hm⟩ : ∃ m, n - i = m + 1 := ⟨n - i - 1, by omega⟩
      rw [hm] at hLi
      have HRn := HRi.out
      rw [hm, layF_step hLi] at HRn
      have HRn := Lib.hid HRn
      obtain ⟨hlt, hled, hmz, hLn⟩ := hLi
      have HLn := Lib.hid hLn
      have HMM : Hid (m = n - (i + 1)) := Lib.hid (by omega)
      have hfl : t'.s.next < 17592186044416 := by have := hA.tab.ok.fin; have := hA.tab.fr; omega
      have HTk := Lib.hid (stkTake_some hA.tab.stk hlt)
      have HTook : Hid (∀ w1, StkAt w1 sb mp { t'.s with next := t'.s.next + 1, taken := addN t'.s.taken t'.s.next } → Chg (fun k => k = sb ∨ k = mp) wr w1 → TabAt w1 SMi mb fr sb mp tb root t'.tk) := Lib.hid fun w1 hs c => hA.tab.took hlt hs c
      have HEnt := Lib.hid (HE.out.call t'.s.next hfl)
      have HMap : Hid (∀ w1, TabAt w1 SMi mb fr sb mp tb root t'.tk → _) := Lib.hid fun w1 (ht : TabAt w1 SMi mb fr sb mp tb root t'.tk) => map_any ht (base + i * 4096) (e t'.s.next) (by omega) (by unfold canonB; simp; omega) (HE.out.ok _ hfl) (HE.out.right _) (HE.out.leaf _) hled
      rw [hmz] at HMap
      obtain ⟨T3, hT3⟩ : ∃ T3, (mapF root t'.tk (base + i * 4096) (e t'.s.next)).2 = T3 := ⟨_, rfl⟩
      rw [hT3] at HMap HRn HLn
      obtain ⟨E, hE⟩ : ∃ E, e t'.s.next = E := ⟨_, rfl⟩
      rw [hE] at HMap HEnt
      obtain ⟨F, hF⟩ : ∃ F, t'.s.next = F := ⟨_, rfl⟩
      rw [hF] at HTk HTook HEnt HRn hfl
      have c4 : ∀ w', Chg NoB wr w' → w'.cell? ⟨pb, 4, none⟩ = some (.pointer (some ⟨sb, 0, none⟩)) := fun w' c => (c.blk0 hA.blk).cell' HCS.out.1
      have l4 := hA.blk.everL
      have cr := Chg.refl NoB wr
      have hq : ((base + i * 4096 : Nat) : Int) = (base : Int) + (i : Int) * 4096 := by omega
      have HQ := Lib.hid hq
      have q1 : (i : Int) * 4096 % 18446744073709551616 = (i : Int) * 4096 := by omega
      have q2 : ((base : Int) + (i : Int) * 4096) % 18446744073709551616 = (base : Int) + (i : Int) * 4096 := by omega
      rw [hq] at HMap
      clear hA hlt hled hmz hLn hT3 hE hF hq
      go_wp2_with fail
      refine HTk.out.mono ?_
      rintro e' w1 ⟨rfl, hs1, C1⟩
      have HT1 := Lib.hid (HTook.out _ hs1 C1)
      have HC1 := Lib.hid C1
      have hnsb : ¬ (pb = sb ∨ pb = mp) := fun e => e.elim HP.out.2.2.1 HP.out.2.2.2.1
      have HB1 := Lib.hid (C1.blk HA.out.blk hnsb)
      clear c4 l4 cr hs1 C1
      have c5 : ∀ w', Chg NoB w1 w' → w'.cell? ⟨pb, 5, none⟩ = some (.pointer (some ⟨tb, 0, none⟩)) := fun w' c => (c.blk0 HB1.out).cell' HCS.out.2
      have l5 := HB1.out.everL
      have cr := Chg.refl NoB w1
      go_upto_region 8 with fail
      refine wp_region_mix 12 [(true, 0), (true, 1), (true, 2), (true, 3), (true, 4), (true, 5), (true, 6), (true, 7), (true, 8), (true, 9), (true, 10), (false, 11)] (fun w' => Chg NoB w1 w') (by kernel_rfl) (by kernel_rfl) (fun _ _ _ _ _ h => h) (cr.drew) ?_
      simp only [pickMix_nil, pickMix_cons, Option.getD_some, List.getElem?_toArray, List.getElem?_cons_zero, List.getElem?_cons_succ, List.cons_append, List.nil_append, List.drop_succ_cons, List.drop_zero]
      iterate 11
       refine wpMix_take rfl ?_
       apply Exists.intro
       refine ⟨fun wS hS => ?_, ?_⟩
       · try dsimp only at hS
         have cS := hS
         go_simp
         try rfl
       simp only [Act.put, List.setIfInBounds_toArray, List.set_cons_zero, List.set_cons_succ]
      refine wpMix_force rfl (fun K hK => ?_)
      go_simp
      refine (HEnt.out _).mono ?_
      rintro e' w2 ⟨rfl, C2⟩
      have c2 := cr.drew.step C2
      refine hK _ _ c2 ?_
      clear hK K C2
      refine wpMix_nil ?_
      obtain ⟨ev, er, ew, ex, eu, eg, ea, ed, ers, epp⟩ := E
      dsimp only at HMap
      go_wp2_with fail
      refine (HMap.out _ (HT1.out.chg0 c2)).mono ?_
      rintro e' w3 ⟨rfl, hT3, C3⟩
      have HA3 := Lib.hid (HA.out.next HH.out HP.out hT3 (HC1.out.then0 c2) C3)
      have oX := Lib.hid (HA3.out.out.chg0 ((Chg.refl NoB w3).alloc (.cells #[.int .i64 F] 3)))
      have sX := Lib.hid (Sl.fresh w3 [.int .i64 F] 3 1 (size := 1) rfl)
      have hol : out.length ≤ 1000 := by rw [HOL.out]; omega
      obtain ⟨i0, hi0, hz0, hz1, hz2⟩ := info_parts INTinfo'
      have one : ∀ u ∈ [Value.int .i64 F], u.oneCell' = true := by simp [Value.oneCell']
      have b1 : out.length + 1 ≤ maxLen := by unfold maxLen; omega
      have b2 : (out.length + 1) * 8 ≤ 140737488355328 := by omega
      clear hT3 C3 c2 c5 l5 cr
      go_wp2_with (at_builtin; go_must (refine wpList_app rfl _ _ 46 rfl i0 _ 8 Tryz.underlying46 hi0 hz0 hz1 hz2 rfl rfl oX.out _ 1 _ rfl sX.out one b1 b2 ?_))
      intro v' w5 ho5 hg5 hn5
      have HA5 := Lib.hid (HA3.out.push HH.out HP.out.1 ((Chg.refl NoB w3).alloc (.cells #[.int .i64 F] 3)) (v' := v') (f := F) (by rw [World.size_alloc]; exact ho5) hg5)
      obtain ⟨yp, yc, hy⟩ := ho5.form
      subst hy
      clear ho5 hg5 hn5 hi0 hz0 hz1 hz2 one b1 b2
      go_wp2_with fail
      go_roundg (n - (i + 1))
      case rel => exact ⟨i + 1, T3, out ++ [F], _, by go_num, by omega, rfl, by rw [List.length_append, HOL.out]; rfl, by rw [← HMM.out]; exact HRn.out, by rw [← HMM.out]; exact HLn.out, HA5.out⟩
      case measure => rw [HK.out]; omega
    · have t1 : decide ((i : Int) < n) = false := decide_eq_false (by omega)
      have t2 : decide (i < n) = false := decide_eq_false hi
      have HX : Hid (R.1.2 = 0 ∧ R.1.1 = out ∧ R.2 = t') := Lib.hid (by
        have := HRi.out
        rw [show n - i = 0 by omega] at this
        rw [← this]
        exact ⟨rfl, rfl, rfl⟩)
      clear hA hLi
      go_wp2_with fail
      go_ret2
      exact ⟨_, rfl, _, SMi, rfl, HX.out.1, by rw [HX.out.2.1, HX.out.2.2]; exact HA.out⟩
end Go.Proofs.YtdjaeoeejcmhdaaGreatDoor
set_option linter.unusedVariables false
set_option linter.unusedSimpArgs false
namespace Go.Proofs.YtdjaeoeejcmhdaaGreatDoor
open Go.RowKit Go.RR
set_option maxRecDepth 100000 in
theorem wayMatches_any (e : Way) (va : Nat) (asid : Int) (w : World) (hv : va < 18446744073709551616) (hl : levelB e.leaf.level = true) : Calls Tryz.prog 137 #[.agg #[.bool e.full, .int .i64 e.asid, .int .u64 e.page, .bool e.leaf.p.v, .bool e.leaf.p.r, .bool e.leaf.p.w, .bool e.leaf.p.x, .bool e.leaf.p.u, .bool e.leaf.p.g, .bool e.leaf.p.a, .bool e.leaf.p.d, .int .i64 e.leaf.p.rsw, .int .u64 e.leaf.p.ppn, .int .i64 e.leaf.level, .int .u64 e.leaf.pos], .int .u64 va, .int .i64 asid] w (RetW (.bool (e.matches va asid)) fun w' => Chg NoB w w') := by
  have H1 := Lib.hid fun w' => wayHas_any e va w' hv hl
  obtain ⟨M, hM⟩ : ∃ M, e.has va = M := ⟨_, rfl⟩
  have HV : Hid (e.matches va asid = (M && (decide (e.asid = asid) || e.leaf.p.g))) := Lib.hid (by unfold Way.matches; rw [hM])
  rw [HV.out]
  rw [hM] at H1
  clear hM HV hl
  obtain ⟨full, asd, pg, ⟨v, r, pw, x, u, g, a, d, rsw, ppn⟩, level, pos⟩ := e
  dsimp only at H1 ⊢
  have HB := Lib.hid (Blk.new w #[.bool full, .int .i64 asd, .int .u64 pg, .bool v, .bool r, .bool pw, .bool x, .bool u, .bool g, .bool a, .bool d, .int .i64 rsw, .int .u64 ppn, .int .i64 level, .int .u64 pos] 230)
  have HC := Lib.hid ((Chg.refl NoB w).alloc (.cells #[.bool full, .int .i64 asd, .int .u64 pg, .bool v, .bool r, .bool pw, .bool x, .bool u, .bool g, .bool a, .bool d, .int .i64 rsw, .int .u64 ppn, .int .i64 level, .int .u64 pos] 230))
  go_enter Tryz.func137, Tryz.ntmps137
  go_upto_region 1 with fail
  generalize w.alloc (.cells #[.bool full, .int .i64 asd, .int .u64 pg, .bool v, .bool r, .bool pw, .bool x, .bool u, .bool g, .bool a, .bool d, .int .i64 rsw, .int .u64 ppn, .int .i64 level, .int .u64 pos] 230) = w0 at *
  have f1 := HB.out.ever
  have l1 := HB.out.everL
  have c0 := Chg.refl NoB w0
  clear HB
  cases M
  · go_wp2_with fail
    with_reducible refine (H1.out _).mono ?_
    rintro e w1 ⟨rfl, C1⟩
    go_wp2_with fail
    go_ret
    exact ⟨rfl, HC.out.step C1⟩
  · obtain ⟨q, hq⟩ : ∃ q, (asd == asid) = q := ⟨_, rfl⟩
    have HQ : Hid (decide (asd = asid) = q) := Lib.hid hq
    cases q
    all_goals
      go_wp2_with fail
      with_reducible refine (H1.out _).mono ?_
      rintro e w1 ⟨rfl, C1⟩
      go_wp2_with fail
      go_ret
      exact ⟨by rw [HQ.out]; first | rfl | simp, HC.out.step C1⟩
/-- Ways as cells. -/
def wcells (l : List Way) : List Value := l.flatMap Way.cs
theorem wcells_len (l : List Way) : (wcells l).length = l.length * 15 := by
  induction l with
  | nil => rfl
  | cons x l ih => show (x.cs ++ wcells l).length = _; rw [List.length_append, ih, List.length_cons]; show 15 + _ = _; omega
theorem wcells_get {l : List Way} {k j : Nat} {e : Way} (h : l[k]? = some e) (hj : j < 15) : (wcells l)[15 * k + j]? = e.cs[j]? := by
  induction l generalizing k with
  | nil => simp at h
  | cons x l ih =>
    show (x.cs ++ wcells l)[15 * k + j]? = _
    cases k with
    | zero =>
      simp at h
      subst h
      rw [List.getElem?_append_left (by show _ < 15; omega)]
      simp
    | succ k =>
      rw [List.getElem?_append_right (by show 15 ≤ _; omega)]
      rw [show 15 * (k + 1) + j - x.cs.length = 15 * k + j by show _ - 15 = _; omega]
      exact ih (by simpa using h)
/-- A way that may stand in a buffer. -/
structure Way.Ok (e : Way) : Prop where
  lv : levelB e.leaf.level = true
  p : e.leaf.p.Ok
  pos : e.leaf.pos < 18446744073709551616
  page : e.page < 18446744073709551616
theorem Way.zero_ok : Way.zero.Ok := ⟨rfl, ⟨by decide, by decide, by decide⟩, by decide, by decide⟩
structure TlbIn (w : World) (S : Nat → Prop) (bb ob cap W : Nat) (gs : Nat → Nat) (cur : Array Value) (b : Tlb) : Prop where
  buf : Blk w bb #[.slice (some ⟨ob, 0, none⟩) b.length cap] 160
  out : Blk w ob cur 161
  cp : b.length ≤ cap
  sl : ∀ i, i < b.length → cur[i]? = some (.slice (some ⟨gs i, 0, none⟩) W W)
  rows : ∀ i l, b[i]? = some l → Blk w (gs i) (wcells l).toArray 230 ∧ l.length = W ∧ S (gs i) ∧ ∀ e ∈ l, e.Ok
  inj : ∀ i j, i < b.length → j < b.length → gs i = gs j → i = j
  n1 : ∀ i, i < b.length → gs i ≠ bb ∧ gs i ≠ ob
  n2 : bb ≠ ob
  s1 : S bb
  s2 : S ob
  l1 : 1 ≤ b.length
  l2 : b.length ≤ 64
  w1 : 1 ≤ W
  w2 : W ≤ 8
def TlbAt (w : World) (S : Nat → Prop) (bb : Nat) (b : Tlb) : Prop := ∃ ob cap W gs cur, TlbIn w S bb ob cap W gs cur b
theorem TlbAt.chg {w w' : World} {S S' : Nat → Prop} {bb : Nat} {b : Tlb} (h : TlbAt w S bb b) (c : Chg S' w w') (hs : ∀ k, S k → ¬ S' k) : TlbAt w' S bb b := by
  obtain ⟨ob, cap, W, gs, cur, h⟩ := h
  exact ⟨ob, cap, W, gs, cur, c.blk h.buf (hs _ h.s1), c.blk h.out (hs _ h.s2), h.cp, h.sl, fun i l hi => by obtain ⟨h1, h2, h3, h4⟩ := h.rows i l hi; exact ⟨c.blk h1 (hs _ h3), h2, h3, h4⟩, h.inj, h.n1, h.n2, h.s1, h.s2, h.l1, h.l2, h.w1, h.w2⟩
theorem TlbIn.chg0 {w w' : World} {S : Nat → Prop} {bb ob cap W : Nat} {gs : Nat → Nat} {cur : Array Value} {b : Tlb} (h : TlbIn w S bb ob cap W gs cur b) (c : Chg NoB w w') : TlbIn w' S bb ob cap W gs cur b :=
  ⟨c.blk0 h.buf, c.blk0 h.out, h.cp, h.sl, fun i l hi => by obtain ⟨h1, h2, h3, h4⟩ := h.rows i l hi; exact ⟨c.blk0 h1, h2, h3, h4⟩, h.inj, h.n1, h.n2, h.s1, h.s2, h.l1, h.l2, h.w1, h.w2⟩
theorem TlbAt.chg0 {w w' : World} {S : Nat → Prop} {bb : Nat} {b : Tlb} (h : TlbAt w S bb b) (c : Chg NoB w w') : TlbAt w' S bb b := h.chg c fun _ _ => id
theorem TlbAt.mono {w : World} {S S' : Nat → Prop} {bb : Nat} {b : Tlb} (h : TlbAt w S bb b) (hs : ∀ k, k < w.heap.size → S k → S' k) : TlbAt w S' bb b := by
  obtain ⟨ob, cap, W, gs, cur, h⟩ := h
  exact ⟨ob, cap, W, gs, cur, h.buf, h.out, h.cp, h.sl, fun i l hi => by obtain ⟨h1, h2, h3, h4⟩ := h.rows i l hi; exact ⟨h1, h2, hs _ h1.lt h3, h4⟩, h.inj, h.n1, h.n2, hs _ h.buf.lt h.s1, hs _ h.out.lt h.s2, h.l1, h.l2, h.w1, h.w2⟩
set_option maxRecDepth 100000 in
theorem tlbSet_any {S : Nat → Prop} {w : World} {bb ob cap W : Nat} {gs : Nat → Nat} {cur : Array Value} {b : Tlb} (h : TlbIn w S bb ob cap W gs cur b) (pg : Nat) (hp : pg < 18446744073709551616) :
    Calls Tryz.prog 135 #[.pointer (some ⟨bb, 0, none⟩), .int .u64 pg] w (RetW (.slice (some ⟨gs (pg % b.length), 0, none⟩) W W) fun w' => Chg NoB w w') := by
  have hb1 := h.l1
  have hb2 := h.l2
  have f1 := h.buf.ever
  have l1 := h.buf.everL
  have l2 := h.out.everL
  have hm : pg % b.length < b.length := Nat.mod_lt _ (by omega)
  have hc0 := h.sl _ hm
  obtain ⟨n, hn⟩ : ∃ n, b.length = n := ⟨_, rfl⟩
  obtain ⟨G, hG⟩ : ∃ G, gs (pg % n) = G := ⟨_, rfl⟩
  rw [hn] at hb1 hb2 f1 hm hc0 ⊢
  rw [hG] at hc0 ⊢
  obtain ⟨k, hk⟩ : ∃ k, pg % n = k := ⟨_, rfl⟩
  rw [hk] at hm hc0
  have ok : ∀ w', Chg NoB w w' → w'.cell? ⟨ob, k, none⟩ = some (.slice (some ⟨G, 0, none⟩) W W) := fun w' c => ((c.blk0 h.out).cell k).trans hc0
  have c0 := Chg.refl NoB w
  have ck : (pg : Int) % (n : Int) = (k : Int) := by omega
  have hn0 : ((n : Int) == 0) = false := by rw [beq_eq_false_iff_ne]; omega
  have HK := Lib.hid hk
  clear h hn hG hc0 hk
  go_enter Tryz.func135, Tryz.ntmps135
  go_upto_region 1 with fail
  have cd : ∀ n, Chg NoB w (w.drewN n) := fun n => c0.drewN n
  go_quiet (fail)
  go_wp2_with fail
  go_ret
  exact ⟨rfl, cd _⟩
end Go.Proofs.YtdjaeoeejcmhdaaGreatDoor
