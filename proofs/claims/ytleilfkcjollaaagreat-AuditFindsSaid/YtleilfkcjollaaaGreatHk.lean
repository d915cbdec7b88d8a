/- The audit: busy pages of a home at rest: none. No condition. The audit: links within their bounds, how many pages are shared, the bounds of a cluster. No condition. -/
import Derived.Test.YtleilfkcjollaaaGreatHj
import Derived.Test.YtleilfkcjollaaaGreatShelf
import Derived.Maps.OwnOps
set_option linter.unusedVariables false
set_option linter.unusedSimpArgs false
set_option linter.unusedSectionVars false
namespace Go.Proofs.YtleilfkcjollaaaGreat
open Go.RowKit Go.RR Go.Maps Go.Sort Go.Shelf
theorem Chg.of_below {w w' : World} (h : Below w.heap.size w w') : Chg NoB w w' := ⟨h.os, h.tape, h.output, h.size, fun k hk _ => h.block k hk⟩
theorem ins_perm {H : Type} (x : Lit × DataW H) : ∀ l : List (Lit × DataW H), (DataW.insert x l).Perm (x :: l)
  | [] => List.Perm.refl _
  | y :: r => by
    unfold DataW.insert
    split
    · exact List.Perm.refl _
    · exact ((ins_perm x r).cons y).trans (List.Perm.swap x y r)
theorem foldr_perm {H : Type} : ∀ l : List (Lit × DataW H), (l.foldr DataW.insert []).Perm l
  | [] => List.Perm.refl _
  | x :: l => (ins_perm x _).trans ((foldr_perm l).cons x)
theorem int_bound : ∀ (n : Nat) (l : List Int), l.Nodup → (∀ x ∈ l, 0 ≤ x ∧ x < n) → l.length ≤ n
  | 0, l, _, h => by
    cases l with
    | nil => exact Nat.le_refl _
    | cons x l => have := h x (List.mem_cons_self ..); omega
  | n + 1, l, hn, h => by
    by_cases hx : (n : Int) ∈ l
    · have h1 := int_bound n (l.erase n) (hn.erase _) fun x hx' => by
        have h2 := (List.Nodup.mem_erase_iff hn).1 hx'
        have h3 := h x h2.2
        have : x ≠ n := h2.1
        omega
      rw [List.length_erase_of_mem hx] at h1
      omega
    · have := int_bound n l hn fun x hx' => by
        have h3 := h x hx'
        have : x ≠ n := fun e => hx (e ▸ hx')
        omega
      omega
theorem int_wf {x : Int} (h0 : 0 ≤ x) (h1 : x ≤ 1000000) : (Lit.int .i64 x).wf = true := by
  have := IntKind.wrap_i64 x
  have h : IntKind.i64.wrap x = x := by omega
  have hm : IntKind.i64.min = -9223372036854775808 := rfl
  simp [Lit.wf, h]
  omega
theorem keys_call (mb : Option Nat) (w : World) : Calls Tryz.prog 69 #[.map mb] w fun e w' => e = .returned (.func (.func 107) #[] #[.pointer (some ⟨w.heap.size, 0, none⟩)]) ∧ w' = w.alloc (.cells #[.map mb] 151) :=
  callsIn_wide.1 (AnyZI.keys_in Tryz.keysA Fence.wide 5 trivial rfl mb w)
theorem sortsIn (m : Nat) : AnyZI.SortsIn Tryz.prog Tryz.sortedA_ren Fence.wide m :=
  ⟨fun blk off cap ss W hH hblk hsz => callsIn_wide.2 (AnyM.slices_Sort_int Tryz.sortA blk off cap ss W hH hblk hsz),
   fun p cap W => callsIn_wide.2 (AnyM.slices_Sort_int_none Tryz.sortA p cap W)⟩
def anyR (_ : Value) : Option (DataW Unit × List MemPlace) := some (.nil, [])
/-- A home's map as the library reads it. -/
theorem HmAt.owns {w : World} {h : Hm} {ps : List (Int × Nat × Nat)} (a : HmAt w h ps) (hs : h.shared ≤ 65536) :
    ∃ (n : Nat) (es : List (Lit × DataW Unit)), n ≤ 65536 ∧ es.length ≤ n ∧ w.ownsMap Tryz.prog 3 anyR h.mb n (.map es) ∧ ∀ x ∈ intKeys (.map es : DataW Unit), 0 ≤ x ∧ x < h.shared := by
  obtain ⟨es, c, h1, h2⟩ := a.map
  obtain ⟨es', c', h1', hst⟩ := a.st
  rw [h1] at h1'
  cases h1'
  have hkey : ∀ x ∈ es.toList, ∃ q : Int, x.key = .int .i64 q ∧ 0 ≤ q ∧ q < h.shared := fun x hx => by
    have hx2 : (x.key, x.val) ∈ es.toList.map (fun e => (e.key, e.val)) := List.mem_map.2 ⟨x, hx, rfl⟩
    rw [h2, List.map_map] at hx2
    obtain ⟨q, hq, hq2⟩ := List.mem_map.1 hx2
    exact ⟨q.1, (congrArg Prod.fst hq2).symm, a.kn q hq⟩
  have hrd : ∀ x ∈ es.toList, ∃ q : Int, WideElems.rd Tryz.prog 3 anyR x = some (.int .i64 q, .nil) ∧ x.key = .int .i64 q ∧ 0 ≤ q ∧ q < h.shared := fun x hx => by
    obtain ⟨q, hq, h3, h4⟩ := hkey x hx
    refine ⟨q, ?_, hq, h3, h4⟩
    unfold WideElems.rd
    rw [hq, Maps.keyOf_int_mk Tryz.underlying3 (int_wf h3 (by omega))]
    rfl
  have hsz : es.size ≤ 65536 := by
    have hl : es.size = ps.length := by have := congrArg List.length h2; simpa using this
    have hnd : (ps.map (·.1)).Nodup := by
      have h3 := hst.2.2
      have h4 : es.toList.map (·.key) = ps.map fun p => Value.int .i64 p.1 := by
        have := congrArg (List.map Prod.fst) h2
        simp only [List.map_map] at this
        exact this
      rw [h4] at h3
      have h5 : (ps.map fun p => Value.int .i64 p.1) = (ps.map (·.1)).map (Value.int .i64) := by rw [List.map_map]; rfl
      rw [h5] at h3
      exact List.Pairwise.of_map (Value.int .i64) (fun a b hne e => hne (congrArg _ e)) h3
    have := int_bound h.shared.toNat (ps.map (·.1)) hnd fun x hx => by
      obtain ⟨p, hp, rfl⟩ := List.mem_map.1 hx
      have := a.kn p hp
      omega
    rw [List.length_map] at this
    omega
  refine ⟨es.size, (es.toList.map (WideElems.rg Tryz.prog 3 anyR)).foldr DataW.insert [], hsz, ?_, ⟨es, c, h1, ⟨by unfold maxLen; omega, hst, fun x hx => ?_⟩, Nat.le_refl _, rfl⟩, fun x hx => ?_⟩
  · rw [(foldr_perm _).length_eq, List.length_map, Array.length_toList]
    exact Nat.le_refl _
  · obtain ⟨q, hq, -⟩ := hrd x hx
    exact ⟨_, hq⟩
  · obtain ⟨e, he, rfl⟩ := List.mem_map.1 hx
    obtain ⟨y, hy, rfl⟩ := List.mem_map.1 ((foldr_perm _).mem_iff.1 he)
    obtain ⟨q, hq, -, h3, h4⟩ := hrd y hy
    rw [WideElems.rg_of hq]
    exact ⟨h3, h4⟩
set_option maxHeartbeats 1000000 in
theorem sorted_call {w : World} {h : Hm} {ps : List (Int × Nat × Nat)} (a : HmAt w h ps) (hs : h.shared ≤ 65536) :
    Calls Tryz.prog 68 #[.func (.func 107) #[] #[.pointer (some ⟨w.heap.size, 0, none⟩)]] (w.alloc (.cells #[.map (some h.mb)] 151)) (RetSl fun v w' => ∃ ks : List Int, (∀ x ∈ ks, 0 ≤ x ∧ x < h.shared) ∧ ks.length ≤ 65536 ∧ Own w' (fun k => w.heap.size ≤ k) 3 1 v ks.length (ks.map (Value.int .i64)) ∧ Chg NoB w w') := by
  obtain ⟨n, es, hn, hle, how, hin⟩ := a.owns hs
  have hbl := how.lt
  have hsz : Maps.size (.map es : DataW Unit) ≤ n := hle
  have hseq : SeqGives Fence.wide 2 Tryz.prog 107 #[.pointer (some ⟨w.heap.size, 0, none⟩)] encZ (fun ss => ss.Perm (intKeys (.map es : DataW Unit))) (Maps.size (.map es : DataW Unit)) (w.alloc (.cells #[.map (some h.mb)] 151)) :=
    AnyZI.keys_gives (ρ := Tryz.keysA_ren) { Tryz.keysA with } Fence.wide _ trivial rfl (by omega) w.heap.size h.mb n (.map es) _ (by simp) (by simp) (by
      obtain ⟨er, cl, hb', Ft', hs', hD'⟩ := how
      exact ⟨er, cl, (Below.heap_alloc _ _ h.mb hbl).trans hb', Ft', hs', hD'⟩)
  have cS := AnyZI.sorted_in Tryz.sortedA Fence.wide 5 trivial trivial trivial trivial rfl (by omega) (sortsIn _) (enters_of Tryz.func106 (by kernel_rfl) rfl) 107 #[.pointer (some ⟨w.heap.size, 0, none⟩)] trivial (enters_of Tryz.func107 (by kernel_rfl) rfl) _ _ (by unfold maxLen; omega) (by omega) _ hseq
  change CallsIn _ _ Tryz.prog 68 _ _ _ at cS
  refine (callsIn_wide.1 cS).mono ?_
  rintro e w' ⟨v, ss, rfl, hp, hrow, -, hbe⟩
  have hpm := List.mergeSort_perm ss (fun x y : Int => decide (x ≤ y))
  have hl : ss.length ≤ 65536 := by
    rw [hp.length_eq]
    have : (intKeys (.map es : DataW Unit)).length = es.length := List.length_map _
    omega
  refine ⟨v, rfl, ss.mergeSort fun x y => decide (x ≤ y), fun x hx => hin x (hp.mem_iff.1 (hpm.mem_iff.1 hx)), by rw [List.length_mergeSort]; exact hl, ?_, ?_⟩
  · rw [List.length_mergeSort]
    exact (Own.of_row hrow).mono fun k hk => by have := hk; simp at this; omega
  · exact ((Chg.refl NoB w).alloc _).step (Chg.of_below hbe)
set_option maxHeartbeats 2000000 in
set_option maxRecDepth 100000 in
theorem busy_any {w : World} {h : Hm} {ps : List (Int × Nat × Nat)} (a : HmAt w h ps) (hn : 2 ≤ h.nodes) (hn2 : h.nodes ≤ 16) (hs : h.shared ≤ 65536) :
    Calls Tryz.prog 34 #[.pointer (some ⟨h.hb, 0, none⟩)] w (RetW (.slice none 0 0) fun w' => (∃ ps', HmAt w' h ps' ∧ PsExt w ps ps') ∧ Chg (· = h.mb) w w') := by
  have f6 := a.blk.cell' (i := 6) (v := .map (some h.mb)) rfl
  have fl := a.blk.lt
  have HK := Lib.hid (keys_call (some h.mb) w)
  have HSo := Lib.hid (sorted_call a hs)
  have HA := Lib.hid a
  have HN := Lib.hid (And.intro hn (And.intro hn2 hs))
  have HM := Lib.hid a.map.lt
  clear a hn hn2 hs
  go_enter Tryz.func34, Tryz.ntmps34
  go_wp2_with fail
  with_reducible refine HK.out.mono ?_
  rintro e w1 ⟨rfl, hw⟩
  subst hw
  go_wp2_with fail
  with_reducible refine HSo.out.mono ?_
  rintro e w2 ⟨v, rfl, ks, hk, hkl, hO, C2⟩
  obtain ⟨kp, kc, hv⟩ := hO.form
  subst hv
  obtain ⟨n, hnl⟩ : ∃ n, ks.length = n := ⟨_, rfl⟩
  rw [hnl] at hO hkl
  simp only [hnl]
  have HKN := Lib.hid hnl
  have HKs := Lib.hid hk
  have HO := Lib.hid hO
  have HC2 := Lib.hid C2
  clear hk hO C2 hnl f6 fl HK HSo
  go_wp2_with fail
  go_loopg [16, 3] n (fun k v o wr => ∃ (i : Nat) (ps' : List (Int × Nat × Nat)), v = .int .i64 i ∧ o = .slice none 0 0 ∧ i ≤ n ∧ k = n - i ∧ HmAt wr h ps' ∧ PsExt w ps ps' ∧ Chg (· = h.mb) w wr ∧ Sl wr (fun k => w.heap.size ≤ k) 1 (.slice kp n kc) n (ks.map (Value.int .i64)))
  case atStart => exact ⟨0, ps, rfl, rfl, by omega, by omega, HA.out.chg0 HC2.out, fun p hp => .inl hp, HC2.out.mono fun _ _ e => e.elim, HO.out.sl⟩
  case round =>
    obtain ⟨i, ps', rfl, rfl, hin, hk, hA, hE, hC, hS⟩ := hrel
    have HK := Lib.hid hk
    have HA' := Lib.hid hA
    have HE := Lib.hid hE
    have HC := Lib.hid hC
    have HS := Lib.hid hS
    clear hk hA hE hC
    by_cases hi : i < n
    · have t1 : decide ((i : Int) < n) = true := decide_eq_true (by omega)
      have t2 : decide (i < n) = true := decide_eq_true hi
      obtain ⟨-, p, c, hv, hnc, hr⟩ := hS
      cases hv
      obtain ⟨g, off, rfl, hgS, hg, hcell⟩ := hr (by omega)
      have hil : i < ks.length := by rw [HKN.out]; exact hi
      have fx := hcell i (.int .i64 ks[i]) (by rw [List.getElem?_map, List.getElem?_eq_getElem hil]; rfl)
      have hkb := HKs.out ks[i] (List.getElem_mem hil)
      obtain ⟨x, hx⟩ : ∃ x, ks[i] = x := ⟨_, rfl⟩
      rw [hx] at fx hkb
      have HSt := Lib.hid (hState_any HA'.out x hkb.1 hkb.2 HN.out.1 HN.out.2.1 HN.out.2.2)
      unfold stC at HSt
      generalize ((x % h.nodes) == h.me) = ow at HSt
      generalize x % h.nodes = own at HSt
      clear hr hcell hx hkb
      go_wp2_with fail
      with_reducible refine HSt.out.mono ?_
      rintro e w3 ⟨rfl, ⟨ps3, hA3, hE3⟩, C3⟩
      have HA3 := Lib.hid (hA3.chg0 ((Chg.refl NoB w3).alloc (.cells #[.int .i64 0, .bool ow, .int .i64 own, .int .u16 0, .int .i64 0, .int .u16 0, .bool false, .int .i64 (-1), .int .i64 0] 53)))
      have HE3 : Hid (PsExt w ps ps3) := Lib.hid (fun p hp => (hE3 p hp).elim (HE.out p) fun e => .inr ⟨Nat.le_trans HC.out.size e.1, Nat.le_trans HC.out.size e.2⟩)
      have C4 := C3.alloc (.cells #[.int .i64 0, .bool ow, .int .i64 own, .int .u16 0, .int .i64 0, .int .u16 0, .bool false, .int .i64 (-1), .int .i64 0] 53)
      have HC3 := Lib.hid (HC.out.step C4)
      have HS3 := Lib.hid (HS.out.chg C4 fun k hk e => by have e : k = h.mb := e; have := HM.out; omega)
      clear hA3 hE3 C3 C4 fx
      go_wp2_with fail
      go_roundg (n - (i + 1))
      case rel => exact ⟨i + 1, ps3, by go_num, rfl, by omega, rfl, HA3.out, HE3.out, HC3.out, HS3.out⟩
      case measure => rw [HK.out]; omega
    · have t1 : decide ((i : Int) < n) = false := decide_eq_false (by omega)
      have t2 : decide (i < n) = false := decide_eq_false hi
      clear hS
      go_wp2_with fail
      go_ret
      exact ⟨rfl, ⟨ps', HA'.out, HE.out⟩, HC.out⟩
end Go.Proofs.YtleilfkcjollaaaGreat
set_option linter.unusedVariables false
set_option linter.unusedSimpArgs false
namespace Go.Proofs.YtleilfkcjollaaaGreat
open Go.RowKit Go.RR
set_option maxHeartbeats 1000000 in
set_option maxRecDepth 100000 in
theorem links_any {w : World} {F : Nat → Nat → Prop} {P : Cpl} {n : Nat} {s : Nat → Spc} (h : CL w F P n n s) (i : Nat) (hi : i < n) (hn2 : n ≤ 16) :
    Calls Tryz.prog 33 #[.pointer (some ⟨P.nb i, 0, none⟩), .int .i64 n, .int .i64 2, .int .i64 2] w (RetW (.bool true) fun w' => Chg NoB w w') := by
  obtain ⟨kb, hN⟩ := h.nd i hi
  have HL := Lib.hid fun w' (c : Chg NoB w w') o ho => ndLinks_any (hN.chg c fun _ _ => id) o ho hn2
  obtain ⟨nb, hnb⟩ : ∃ b, P.nb i = b := ⟨_, rfl⟩
  rw [hnb] at HL ⊢
  clear h hN hnb hi
  go_enter Tryz.func33, Tryz.ntmps33
  go_wp2_with fail
  go_loopg [14] n (fun k v wr => ∃ o : Nat, v = .int .i64 o ∧ o ≤ n ∧ k = n - o ∧ Chg NoB w wr)
  case atStart => exact ⟨0, rfl, by omega, by omega, Chg.refl _ _⟩
  case round =>
    obtain ⟨o, rfl, hin, hk, hC⟩ := hrel
    have HK := Lib.hid hk
    have HC := Lib.hid hC
    clear hk hC
    by_cases hi : o < n
    · have t1 : decide ((o : Int) < n) = true := decide_eq_true (by omega)
      have t2 : decide (o < n) = true := decide_eq_true hi
      have HL1 := Lib.hid (HL.out _ HC.out o hi)
      go_wp2_with fail
      with_reducible refine HL1.out.mono ?_
      rintro e w3 ⟨rfl, C3⟩
      have HC3 := Lib.hid (HC.out.step C3)
      clear C3
      go_wp2_with fail
      go_roundg (n - (o + 1))
      case rel => exact ⟨o + 1, by go_num, by omega, rfl, HC3.out⟩
      case measure => rw [HK.out]; omega
    · have t1 : decide ((o : Int) < n) = false := decide_eq_false (by omega)
      have t2 : decide (o < n) = false := decide_eq_false hi
      go_wp2_with fail
      go_ret
      exact ⟨rfl, HC.out⟩
set_option maxHeartbeats 2000000 in
set_option maxRecDepth 100000 in
theorem shared_any {w : World} {F : Nat → Nat → Prop} {P : Cpl} {n : Nat} {s : Nat → Spc} (h : CL w F P n n s) (hn : 2 ≤ n) :
    Calls Tryz.prog 31 #[.pointer (some ⟨P.cb, 0, none⟩)] w (RetW (.int .i64 2) fun w' => w' = w) := by
  have HNd := Lib.hid (cNode_any h 0 (by omega))
  have HSp := Lib.hid (nSpace_any h 0 (by omega))
  obtain ⟨L, hS, hpb, -⟩ := h.sp 0 (by omega)
  have hsh : (s 0).shape.shared = 2 := by rw [(h.ok 0 (by omega)).shape]
  have W0 : Hid (Calls Tryz.prog 65 #[.pointer (some ⟨P.pb 0, 0, none⟩), .int .u64 1073741824] w (RetW (.tuple #[.int .i64 0, .bool true]) fun w' => w' = w)) := Lib.hid (by
    have := which_in hS 1073741824 0 (by omega) (by omega) (by omega) (by omega) (by omega) (by omega)
    rw [hpb] at this
    exact this)
  have W1 : Hid (Calls Tryz.prog 65 #[.pointer (some ⟨P.pb 0, 0, none⟩), .int .u64 1073745920] w (RetW (.tuple #[.int .i64 1, .bool true]) fun w' => w' = w)) := Lib.hid (by
    have := which_in hS 1073745920 1 (by omega) (by omega) (by omega) (by omega) (by omega) (by omega)
    rw [hpb] at this
    exact this)
  have W2 : Hid (Calls Tryz.prog 65 #[.pointer (some ⟨P.pb 0, 0, none⟩), .int .u64 1073750016] w (RetW (.tuple #[.int .i64 0, .bool false]) fun w' => w' = w)) := Lib.hid (by
    have := which_out hS 1073750016 2 (by omega) (by omega) (by omega) (by omega) (by omega) (by omega)
    rw [hpb] at this
    exact this)
  obtain ⟨nb, hnb⟩ : ∃ b, P.nb 0 = b := ⟨_, rfl⟩
  obtain ⟨pb, hpb'⟩ : ∃ b, P.pb 0 = b := ⟨_, rfl⟩
  have e0 : Calls Tryz.prog 18 #[.pointer (some ⟨P.cb, 0, none⟩), .int .i64 0] w (RetW (.pointer (some ⟨P.nb 0, 0, none⟩)) fun w' => w' = w) := HNd.out
  have HNd := Lib.hid e0
  rw [hnb] at HNd HSp
  rw [hpb'] at HSp W0 W1 W2
  clear h hS hpb hsh hnb hpb' e0 hn
  go_enter Tryz.func31, Tryz.ntmps31
  go_wp2_with fail
  go_loopg [3] 3 (fun k v wr => ∃ i : Nat, v = .int .i64 i ∧ i ≤ 2 ∧ k = 3 - i ∧ wr = w)
  case atStart => exact ⟨0, rfl, by omega, by omega, rfl⟩
  case round =>
    obtain ⟨i, rfl, hi, hk, hw⟩ := hrel
    subst hw
    have HK := Lib.hid hk
    clear hk
    rcases i with _ | _ | _ | i
    · go_wp2_with fail
      with_reducible refine HNd.out.mono ?_
      rintro e w3 ⟨rfl, hw⟩
      subst hw
      go_wp2_with fail
      with_reducible refine HSp.out.mono ?_
      rintro e w3 ⟨rfl, hw⟩
      subst hw
      go_wp2_with fail
      with_reducible refine W0.out.mono ?_
      rintro e w3 ⟨rfl, hw⟩
      subst hw
      go_wp2_with fail
      go_roundg 2
      case rel => exact ⟨1, rfl, by omega, by omega, rfl⟩
      case measure => rw [HK.out]; omega
    · go_wp2_with fail
      with_reducible refine HNd.out.mono ?_
      rintro e w3 ⟨rfl, hw⟩
      subst hw
      go_wp2_with fail
      with_reducible refine HSp.out.mono ?_
      rintro e w3 ⟨rfl, hw⟩
      subst hw
      go_wp2_with fail
      with_reducible refine W1.out.mono ?_
      rintro e w3 ⟨rfl, hw⟩
      subst hw
      go_wp2_with fail
      go_roundg 1
      case rel => exact ⟨2, rfl, by omega, by omega, rfl⟩
      case measure => rw [HK.out]; omega
    · go_wp2_with fail
      with_reducible refine HNd.out.mono ?_
      rintro e w3 ⟨rfl, hw⟩
      subst hw
      go_wp2_with fail
      with_reducible refine HSp.out.mono ?_
      rintro e w3 ⟨rfl, hw⟩
      subst hw
      go_wp2_with fail
      with_reducible refine W2.out.mono ?_
      rintro e w3 ⟨rfl, hw⟩
      subst hw
      go_wp2_with fail
      go_ret
      exact ⟨rfl, rfl⟩
    · omega
theorem CL.used {w : World} {F : Nat → Nat → Prop} {P : Cpl} {m n : Nat} {s : Nat → Spc} (h : CL w F P m n s) (i : Nat) (hi : i < m) :
    Calls Tryz.prog 32 #[.pointer (some ⟨P.pb i, 0, none⟩)] w (RetW (.tuple #[.int .i64 (s i).stk.taken.length, .int .i64 (s i).shared.length]) fun w' => Chg NoB w w') := by
  obtain ⟨L, hS, hpb, -⟩ := h.sp i hi
  have := sUsed_any hS
  rwa [hpb] at this
theorem CL.busy {w : World} {F : Nat → Nat → Prop} {P : Cpl} {m n : Nat} {s : Nat → Spc} (h : CL w F P m n s) (i : Nat) (hi : i < m) (hn : 2 ≤ n) (hn2 : n ≤ 16) :
    Calls Tryz.prog 34 #[.pointer (some ⟨P.hb i, 0, none⟩)] w (RetW (.slice none 0 0) fun w' => CL.Then w F P m n s w') := by
  obtain ⟨mb, ps, hh, hf⟩ := h.hm i hi
  refine (busy_any hh (by show (2 : Int) ≤ n; omega) (by show (n : Int) ≤ 16; omega) (by show (2 : Int) ≤ 65536; omega)).mono ?_
  rintro e w' ⟨rfl, ⟨ps', hh', he⟩, c⟩
  obtain ⟨h1, c1⟩ := h.home hi hf hh' he c
  exact ⟨rfl, _, h1, Ext2.gr F _ w w', c1⟩
set_option maxHeartbeats 2000000 in
set_option maxRecDepth 100000 in
theorem bounds_any {w : World} {F : Nat → Nat → Prop} {P : Cpl} {n : Nat} {s : Nat → Spc} (h : CL w F P n n s) (hn : 2 ≤ n) (hn2 : n ≤ 16) :
    Calls Tryz.prog 12 #[.pointer (some ⟨P.cb, 0, none⟩), .int .i64 2, .int .i64 2] w (RetW (.bool true) fun w' => CL.Then w F P n n s w') := by
  have HSh := Lib.hid (shared_any h hn)
  have HNs := Lib.hid fun w' F' (h' : CL w' F' P n n s) => cNodes_any h'
  have HX := Lib.hid (CLx.refl h)
  have HP := Lib.hid (And.intro hn hn2)
  clear h hn
  go_enter Tryz.func12, Tryz.ntmps12
  go_wp2_with fail
  with_reducible refine HSh.out.mono ?_
  rintro e w1 ⟨rfl, hw⟩
  subst hw
  have HN0 := Lib.hid (HNs.out _ _ HX.out.cl)
  go_wp2_with fail
  with_reducible refine HN0.out.mono ?_
  rintro e w2 ⟨rfl, hw⟩
  subst hw
  go_wp2_with fail
  go_loopg [20] n (fun k v wr => ∃ (i : Nat) (F' : Nat → Nat → Prop), v = .int .i64 i ∧ i ≤ n ∧ k = n - i ∧ CLx w2 F P n s wr F')
  case atStart => exact ⟨0, F, rfl, by omega, by omega, HX.out⟩
  case round =>
    obtain ⟨i, F', rfl, hin, hk, hL⟩ := hrel
    have HK := Lib.hid hk
    have HL := Lib.hid hL
    clear hk hL
    by_cases hi : i < n
    · have t1 : decide ((i : Int) < n) = true := decide_eq_true (by omega)
      have t2 : decide (i < n) = true := decide_eq_true hi
      have HNd := Lib.hid (cNode_any HL.out.cl i hi)
      have HSp := Lib.hid (nSpace_any HL.out.cl i hi)
      have HUs := Lib.hid (HL.out.cl.used i hi)
      obtain ⟨us, hus⟩ : ∃ k, (s i).shared.length = k := ⟨_, rfl⟩
      have hus2 : us ≤ 2 := by rw [← hus]; exact (HL.out.cl.ok i hi).shl
      rw [hus] at HUs
      generalize (s i).stk.taken.length = tk at HUs
      have t3 : decide ((2 : Int) < us) = false := decide_eq_false (by omega)
      have t4 : decide (2 < us) = false := decide_eq_false (by omega)
      obtain ⟨nb, hnb⟩ : ∃ b, P.nb i = b := ⟨_, rfl⟩
      obtain ⟨pb, hpb⟩ : ∃ b, P.pb i = b := ⟨_, rfl⟩
      obtain ⟨hb, hhb⟩ : ∃ b, P.hb i = b := ⟨_, rfl⟩
      have HB := Lib.hid (And.intro hnb (And.intro hpb hhb))
      rw [hnb] at HNd HSp
      rw [hpb] at HSp HUs
      clear hus hus2 hnb hpb hhb
      go_wp2_with fail
      with_reducible refine HNd.out.mono ?_
      rintro e w3 ⟨rfl, hw⟩
      subst hw
      go_wp2_with fail
      with_reducible refine HSp.out.mono ?_
      rintro e w3 ⟨rfl, hw⟩
      subst hw
      go_wp2_with fail
      with_reducible refine HUs.out.mono ?_
      rintro e w4 ⟨rfl, C4⟩
      have HL4 := Lib.hid (HL.out.chg0 C4)
      have HN4 := Lib.hid (HNs.out _ _ HL4.out.cl)
      have HLk := Lib.hid (links_any HL4.out.cl i hi hn2)
      rw [HB.out.1] at HLk
      clear C4
      go_wp2_with fail
      with_reducible refine HN4.out.mono ?_
      rintro e w5 ⟨rfl, hw⟩
      subst hw
      go_wp2_with fail
      with_reducible refine HLk.out.mono ?_
      rintro e w6 ⟨rfl, C6⟩
      have HL6 := Lib.hid (HL4.out.chg0 C6)
      have HHm := Lib.hid (nHome_any HL6.out.cl i hi)
      have HBu := Lib.hid (HL6.out.cl.busy i hi HP.out.1 HP.out.2)
      rw [HB.out.1, HB.out.2.2] at HHm
      rw [HB.out.2.2] at HBu
      clear C6
      go_wp2_with fail
      with_reducible refine HHm.out.mono ?_
      rintro e w7 ⟨rfl, hw⟩
      subst hw
      go_wp2_with fail
      with_reducible refine HBu.out.mono ?_
      rintro e w8 ⟨rfl, hT⟩
      obtain ⟨F8, H8⟩ := HL6.out.next hT
      have H8 := Lib.hid H8
      clear hT
      go_wp2_with fail
      go_loopg [48] 0 (fun q v wy => v = .int .i64 0 ∧ wy = w8)
      case atStart => exact ⟨rfl, rfl⟩
      case round =>
        obtain ⟨rfl, rfl⟩ := hrel
        go_wp2_with fail
        go_roundg (n - (i + 1))
        case rel => exact ⟨i + 1, F8, by go_num, by omega, rfl, H8.out⟩
        case measure => rw [HK.out]; omega
    · have t1 : decide ((i : Int) < n) = false := decide_eq_false (by omega)
      have t2 : decide (i < n) = false := decide_eq_false hi
      go_wp2_with fail
      go_ret
      exact ⟨rfl, HL.out.done⟩
end Go.Proofs.YtleilfkcjollaaaGreat
