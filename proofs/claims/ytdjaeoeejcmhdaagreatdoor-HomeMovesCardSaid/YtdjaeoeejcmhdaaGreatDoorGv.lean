/- Spaces: a new one. No condition. -/
import Derived.Test.YtdjaeoeejcmhdaaGreatDoorGp
import Derived.Test.YtdjaeoeejcmhdaaGreatDoorGt
import Derived.Test.YtdjaeoeejcmhdaaGreatDoorGu
set_option linter.unusedVariables false
set_option linter.unusedSimpArgs false
namespace Go.RR
open Go.RowKit
theorem at_alloc {w : World} {b : Nat} {o : Obj} (o' : Obj) (h : w.heap[b]? = some o) : (w.alloc o').heap[b]? = some o := (Below.heap_alloc w o' b (Array.getElem?_eq_some_iff.1 h).1).trans h
theorem at_chg {w w' : World} {b : Nat} {o : Obj} (c : Chg NoB w w') (h : w.heap[b]? = some o) : w'.heap[b]? = some o := (c.block b (Array.getElem?_eq_some_iff.1 h).1 id).trans h
theorem at_top {w : World} {b : Nat} {o : Obj} (h : b = w.heap.size) : (w.alloc o).heap[b]? = some o := by subst h; exact heap_alloc_new w o
theorem at_drew {w : World} {b : Nat} {o : Obj} (h : w.heap[b]? = some o) : w.drew.heap[b]? = some o := h
theorem MapAt.ofNew {w : World} {b : Nat} (h : w.heap[b]? = some (.map #[] 0)) : MapAt w b .i64 [] := ⟨#[], 0, h, rfl⟩
end Go.RR
namespace Go.Proofs.YtdjaeoeejcmhdaaGreatDoor
open Go.RowKit Go.RR
/-- What the literal of a new space leaves. -/
def NP (wx wy : World) (v : Value) (sh : Shp) (mb bb : Nat) : Prop :=
  ∃ pb ub xb rb : Nat, v = .pointer (some ⟨pb, 0, none⟩) ∧ Blk wy pb #[.int .i64 sh.code, .int .i64 sh.priv, .int .i64 sh.shared, .pointer (some ⟨mb, 0, none⟩), .pointer none, .pointer none, .pointer (some ⟨bb, 0, none⟩), .pointer (some ⟨ub, 0, none⟩), .slice none 0 0, .slice none 0 0, .map (some xb), .map (some rb)] 84 ∧ Blk wy ub #[.pointer (some ⟨mb, 0, none⟩), .pointer (some ⟨bb, 0, none⟩), .bool false, .int .i64 0, .int .u64 0, .bool false, .bool false, .bool false] 91 ∧ wy.heap[xb]? = some (.map #[] 0) ∧ wy.heap[rb]? = some (.map #[] 0) ∧
    (ub ≠ xb ∧ ub ≠ rb ∧ xb ≠ rb ∧ pb ≠ ub ∧ pb ≠ xb ∧ pb ≠ rb ∧ wx.heap.size ≤ pb ∧ wx.heap.size ≤ ub ∧ wx.heap.size ≤ xb ∧ wx.heap.size ≤ rb) ∧ Chg NoB wx wy
def shm (l : List (Int × Nat)) : List (Int × Value) := l.map fun x => (x.1, .int .i64 (x.2 : Nat))
def rim (l : List (Int × Int)) : List (Int × Value) := l.map fun x => (x.1, .int .i64 x.2)
/-- Where a space lies. -/
structure Pl where
  pb : Nat
  mb : Nat
  sb : Nat
  mp : Nat
  tb : Nat
  bb : Nat
  ub : Nat
  xb : Nat
  rb : Nat
  SM : Nat → Prop
  SB : Nat → Prop
  SC : Nat → Prop
  cv : Value
  ov : Value
def Pl.names (L : Pl) : List Nat := [L.pb, L.sb, L.mp, L.tb, L.ub, L.xb, L.rb]
structure Pl.Apart (L : Pl) (H : Nat) : Prop where
  nd : L.names.Nodup
  nm : ∀ b ∈ L.names, b < H ∧ ¬ L.SM b ∧ ¬ L.SB b ∧ ¬ L.SC b
  mB : ∀ k, L.SM k → ¬ L.SB k ∧ ¬ L.SC k
  bC : ∀ k, L.SB k → ¬ L.SC k
  bd : ∀ k, L.SM k ∨ L.SB k ∨ L.SC k → k < H
/-- All of a space's blocks. -/
def Pl.All (L : Pl) (k : Nat) : Prop := k ∈ L.names ∨ L.SM k ∨ L.SB k ∨ L.SC k
structure SpAt (w : World) (L : Pl) (s : Spc) : Prop where
  blk : Blk w L.pb #[.int .i64 s.shape.code, .int .i64 s.shape.priv, .int .i64 s.shape.shared, .pointer (some ⟨L.mb, 0, none⟩), .pointer (some ⟨L.sb, 0, none⟩), .pointer (some ⟨L.tb, 0, none⟩), .pointer (some ⟨L.bb, 0, none⟩), .pointer (some ⟨L.ub, 0, none⟩), L.cv, L.ov, .map (some L.xb), .map (some L.rb)] 84
  tab : TabAt w L.SM L.mb s.u.fr L.sb L.mp L.tb s.root s.tst
  mu : MuAt w L.SM L.SB L.ub L.mb L.bb s.u
  rt : s.u.satp.ppn = s.root
  rtl : s.root < s.u.fr
  code : Sl w L.SC 1 L.cv s.code.length (ints s.code)
  own : Sl w L.SC 1 L.ov s.own.length (ints s.own)
  sh : MapAt w L.xb .i64 (shm s.shared)
  ri : MapAt w L.rb .i64 (rim s.rights)
  ap : L.Apart w.heap.size
def newS (sh : Shp) (n sets ways : Nat) : Spc :=
  let t0 : Tst := ⟨zeroPg (fun _ => 0) 0, ⟨0, 1, n, [0]⟩, 1⟩
  let c := layF 0 65536 codeP sh.code.toNat 0 t0 []
  let o := layF 0 131072 ownP sh.priv.toNat 0 c.2 []
  ⟨sh, ⟨o.2.b, n, tlbNew sets ways, ⟨true, 1, 0⟩, ⟨true, false, false⟩⟩, o.2.s, 0, o.2.used, c.1.1, o.1.1, [], []⟩
def t0S (n : Nat) : Tst := ⟨zeroPg (fun _ => 0) 0, ⟨0, 1, n, [0]⟩, 1⟩
set_option maxHeartbeats 4000000 in
set_option maxRecDepth 100000 in
theorem spaceNew_any (sh : Shp) (n sets ways : Nat) (hok : sh.ok = true) (hn1 : 1 ≤ n) (hn2 : n ≤ 1048576) (s1 : 1 ≤ sets) (s2 : sets ≤ 64) (w1 : 1 ≤ ways) (w2 : ways ≤ 8) (hp : bits .and .i64 (sets : Int) ((sets : Int) - 1) = 0)
    (hL1 : LayOk n 0 65536 codeP sh.code.toNat 0 (t0S n)) (hL2 : LayOk n 0 131072 ownP sh.priv.toNat 0 (layF 0 65536 codeP sh.code.toNat 0 (t0S n) []).2) (w : World) :
    Calls Tryz.prog 15 #[.agg #[.int .i64 sh.code, .int .i64 sh.priv, .int .i64 sh.shared], .int .i64 n, .int .i64 sets, .int .i64 ways] w (RetV fun v w' => ∃ L : Pl, v = .tuple #[.pointer (some ⟨L.pb, 0, none⟩), .int .i64 0] ∧ SpAt w' L (newS sh n sets ways) ∧ (∀ k, L.All k → w.heap.size ≤ k) ∧ Chg NoB w w') := by
  have HRt := Lib.hid fun w' => shapeRight_any sh w'
  rw [hok] at HRt
  have HPN := Lib.hid fun w' => memNew_any n w' (by omega) (by omega)
  have HTN := Lib.hid fun w' => tlbNew_any sets ways s1 s2 w1 w2 hp w'
  have HUN := Lib.hid fun mb bb w' => unitNew_any mb bb w'
  have HSh : Hid (1 ≤ sh.code ∧ sh.code ≤ 16 ∧ 0 ≤ sh.priv ∧ sh.priv ≤ 16) := Lib.hid (by unfold Shp.ok at hok; simp at hok; omega)
  obtain ⟨c, p, s⟩ := sh
  dsimp only at HRt HSh
  obtain ⟨cn, rfl⟩ : ∃ cn : Nat, c = cn := ⟨c.toNat, by have := HSh.out; omega⟩
  obtain ⟨pn, rfl⟩ : ∃ pn : Nat, p = pn := ⟨p.toNat, by have := HSh.out; omega⟩
  have HC := Lib.hid ((Chg.refl NoB w).alloc (.cells #[.int .i64 cn, .int .i64 pn, .int .i64 s] 59))
  have HB := Lib.hid (Blk.new w #[.int .i64 cn, .int .i64 pn, .int .i64 s] 59)
  have HZ : Hid (w.heap.size < (w.alloc (.cells #[.int .i64 cn, .int .i64 pn, .int .i64 s] 59)).heap.size) := Lib.hid (by simp)
  clear hok hp
  go_enter Tryz.func15, Tryz.ntmps15
  go_upto_region 1 with fail
  generalize w.alloc (.cells #[.int .i64 cn, .int .i64 pn, .int .i64 s] 59) = w0 at *
  have f0 := HB.out.ever
  have l0 := HB.out.everL
  obtain ⟨bs, hbs⟩ : ∃ bs, w.heap.size = bs := ⟨_, rfl⟩
  rw [hbs] at f0 l0 HZ HB ⊢
  have HBS := Lib.hid hbs
  clear hbs
  have c0 := Chg.refl NoB w0
  go_wp2_with fail
  refine (HRt.out _).mono ?_
  rintro e w1 ⟨rfl, C1⟩
  have c1 := C1
  go_wp2_with fail
  refine (HPN.out _).mono ?_
  rintro e w2 ⟨rfl, hM2, C2⟩
  have c2 := c1.step C2
  go_wp2_with fail
  refine (HTN.out _).mono ?_
  rintro e w3 ⟨rfl, hT3, C3⟩
  have c3 := c2.step C3
  have HM2 := Lib.hid hM2
  have HC2 := Lib.hid C2
  have HT3 := Lib.hid hT3
  have HC3 := Lib.hid C3
  have HC1 := Lib.hid C1
  clear hM2 hT3 C1 C2 C3 c1 c2 c0
  have cc := Chg.refl NoB w3
  have f3 : ∀ w', Chg NoB w3 w' → _ := fun w' c => f0 w' (c3.step c)
  have l3 : ∀ w', Chg NoB w3 w' → _ := fun w' c => l0 w' (c3.step c)
  have HFL := Lib.hid (And.intro f0 l0)
  have HC03 := Lib.hid c3
  clear f0 l0 c3
  obtain ⟨mb, hmb⟩ : ∃ mb, w1.heap.size + 1 = mb := ⟨_, rfl⟩
  obtain ⟨bb, hbb⟩ : ∃ bb, w2.heap.size = bb := ⟨_, rfl⟩
  rw [hmb, hbb]
  rw [hmb] at HM2
  rw [hbb] at HT3
  have HMB := Lib.hid hmb
  have HBB := Lib.hid hbb
  clear hmb hbb
  have mk1 : ∀ w, (Instr.makeMap 81 none).run Tryz.prog w = .ok (.map (some w.heap.size)) (w.alloc (.map #[] 0)) := fun _ => rfl
  have mk2 : ∀ w, (Instr.makeMap 82 none).run Tryz.prog w = .ok (.map (some w.heap.size)) (w.alloc (.map #[] 0)) := fun _ => rfl
  go_upto_region 9 with fail
  go_cut [13] (fun s13 wy => NP w3 wy s13 ⟨cn, pn, s⟩ mb bb)
  case first =>
    go_region_held3 (fun w' => Chg NoB w3 w') ((repeat (first | with_reducible assumption | with_reducible apply Chg.drew | with_reducible apply Chg.drewN | with_reducible apply Chg.alloc))) (first | (go_at_call 34; (with_reducible refine (HUN.out _ _ _).mono ?_); rintro e w9 ⟨rfl, hB, hC⟩; have c9 := Chg.step (by with_reducible assumption : Chg NoB w3 _) hC; have hs9 := hC.size; have hBs := hB.lt))
    all_goals
      clear f3 l3
      go_wp2_with fail
      go_meet
      have hB' : w9.heap[_]? = some _ := hB
      try simp only [World.size_alloc, World.size_drew] at hB' hs9 hBs
      refine ⟨_, _, _, _, rfl, at_top (by simp only [World.size_alloc, World.size_drew]), ?_, ?_, ?_, ?_, by with_reducible assumption⟩
      · unfold Blk
        repeat' (first | with_reducible exact hB' | with_reducible refine at_alloc _ ?_ | with_reducible refine at_chg hC ?_ | with_reducible refine at_drew ?_)
      · repeat' (first | (with_reducible refine at_top ?_; first | with_reducible rfl | (simp only [World.size_alloc, World.size_drew]; done)) | with_reducible refine at_alloc _ ?_ | with_reducible refine at_chg hC ?_ | with_reducible refine at_drew ?_)
      · repeat' (first | (with_reducible refine at_top ?_; first | with_reducible rfl | (simp only [World.size_alloc, World.size_drew]; done)) | with_reducible refine at_alloc _ ?_ | with_reducible refine at_chg hC ?_ | with_reducible refine at_drew ?_)
      · refine ⟨?_, ?_, ?_, ?_, ?_, ?_, ?_, ?_, ?_, ?_⟩ <;> omega
  case rest =>
    clear f3 l3 cc
    obtain ⟨pb, ub, xb, rb, rfl, hPb, hUb, hXb, hRb, hne, hC9⟩ := hcut
    have HPb := Lib.hid hPb
    have HUb := Lib.hid hUb
    have HXb := Lib.hid hXb
    have HRb := Lib.hid hRb
    have HNe := Lib.hid hne
    have HC9 := Lib.hid hC9
    have HFN := Lib.hid (stkNew_any n wc hn2)
    clear hPb hUb hXb hRb hne hC9
    go_wp2_with fail
    refine HFN.out.mono ?_
    rintro e w4 ⟨rfl, hS4, hC4⟩
    have HS4 := Lib.hid hS4
    have HC4 := Lib.hid hC4
    obtain ⟨mp, hmp⟩ : ∃ mp, wc.heap.size = mp := ⟨_, rfl⟩
    have HMP := Lib.hid hmp
    rw [hmp] at HS4 ⊢
    have HP4 := Lib.hid (hC4.blk0 HPb.out)
    have HP5 := Lib.hid (HP4.out.set 4 (.pointer (some ⟨mp + 1, 0, none⟩)))
    have HC5 := Lib.hid ((Chg.refl (fun k => k = pb) w4).setCell (a := ⟨pb, 4, none⟩) (.inl rfl) (.pointer (some ⟨mp + 1, 0, none⟩)))
    have p4 := HP4.out.cell
    have pl := HP4.out.lt
    have pf := HP4.out.frozen
    clear hS4 hC4 hmp
    go_upto_region 11 with fail
    generalize w4.setCell ⟨pb, 4, none⟩ (.pointer (some ⟨mp + 1, 0, none⟩)) = w5 at *
    have p5 := HP5.out.cell
    have pl5 := HP5.out.lt
    clear p4 pl pf
    have hsz : w1.heap.size ≤ w2.heap.size ∧ w2.heap.size ≤ w3.heap.size ∧ w3.heap.size ≤ mp ∧ mp + 1 < w4.heap.size ∧ w4.heap.size ≤ w5.heap.size ∧ w.heap.size ≤ w1.heap.size := by
      have h4 := HS4.out.blk.lt
      have h9 := HC9.out.size
      rw [HMP.out] at h9
      exact ⟨HC2.out.size, HC3.out.size, h9, h4, HC5.out.size, Nat.le_trans HC.out.size HC1.out.size⟩
    have HSZ := Lib.hid hsz
    have hpbr : w3.heap.size ≤ pb := HNe.out.2.2.2.2.2.2.1
    have hM5 : MemAt w5 (fun k => w1.heap.size ≤ k ∧ k < w2.heap.size) mb (fun _ => 0) n := by
      have h := (((HM2.out.mono (S' := fun k => w1.heap.size ≤ k ∧ k < w2.heap.size) fun k hk e => ⟨e, hk⟩).chg0 HC3.out).chg0 HC9.out).chg0 HC4.out
      exact h.chg HC5.out fun k hk e => by have e : k = pb := e; omega
    have hplt : pb < mp := by have := HPb.out.lt; rw [HMP.out] at this; exact this
    have hS5 : StkAt w5 (mp + 1) mp ⟨0, 0, n, []⟩ := HS4.out.chg HC5.out (by show mp + 1 ≠ pb; omega) (by show mp ≠ pb; omega)
    have HTb := Lib.hid (tabNew_any hM5 hS5 (fun e => by omega) (fun e => by omega) (Nat.le_refl n) hn2 hn1)
    have HPL := Lib.hid (And.intro hpbr hplt)
    clear hsz hM5 hS5 hpbr hplt
    go_wp2_with fail
    refine HTb.out.mono ?_
    rintro e w6 ⟨rfl, hT6, hC6⟩
    obtain ⟨tb, htb⟩ : ∃ tb, w5.heap.size = tb := ⟨_, rfl⟩
    have HTB := Lib.hid htb
    rw [htb] at hT6 ⊢
    have HT6 : Hid (TabAt w6 (fun k => ((w1.heap.size ≤ k ∧ k < w2.heap.size) ∨ tb + 1 ≤ k) ∧ k < w6.heap.size) mb n (mp + 1) mp tb 0 (t0S n)) := Lib.hid (hT6.mono fun k hk => ⟨fun e => ⟨e.elim (fun e => .inl e.1) .inr, hk⟩, fun e => e.1.elim (fun e' => .inl ⟨e', by have := HSZ.out; omega⟩) .inr⟩)
    have HC6 := Lib.hid hC6
    have HP6 := Lib.hid (hC6.blk HP5.out (fun e => by have := HSZ.out; have := HPL.out; omega))
    have HP7 := Lib.hid (HP6.out.set 5 (.pointer (some ⟨tb, 0, none⟩)))
    have HC7 := Lib.hid ((Chg.refl (fun k => k = pb) w6).setCell (a := ⟨pb, 5, none⟩) (.inl rfl) (.pointer (some ⟨tb, 0, none⟩)))
    have p6 := HP6.out.cell
    have pl := HP6.out.lt
    have pf := HP6.out.frozen
    have hB6 : Blk w6 bs #[.int .i64 cn, .int .i64 pn, .int .i64 s] 59 := by
      have h := (HC4.out.blk0 (HC9.out.blk0 (HC03.out.blk0 HB.out)))
      have hl := HB.out.lt
      have hz1 := HC1.out.size
      have := HSZ.out
      have := HPL.out
      exact hC6.blk (HC5.out.blk h (by show bs ≠ pb; omega)) fun e => by omega
    have HB7 := Lib.hid (HC7.out.blk hB6 (by show bs ≠ pb; have := HSZ.out; have := HPL.out; have := HB.out.lt; have := HC1.out.size; omega))
    clear hB6
    clear hT6 hC6 htb p5 pl5
    go_upto_region 14 with fail
    generalize w6.setCell ⟨pb, 5, none⟩ (.pointer (some ⟨tb, 0, none⟩)) = w7 at *
    have HN7 := Lib.hid (show ¬ (((w1.heap.size ≤ pb ∧ pb < w2.heap.size) ∨ tb + 1 ≤ pb) ∧ pb < w6.heap.size) ∧ pb ≠ mp + 1 ∧ pb ≠ mp ∧ pb ≠ tb by
      have := HSZ.out
      have := HPL.out
      have := HTB.out
      omega)
    have hT7 : TabAt w7 _ mb n (mp + 1) mp tb 0 (t0S n) := HT6.out.chg HC7.out fun k hk e => by
      have e : k = pb := e
      subst e
      rcases hk with hk | hk | hk | hk
      · exact HN7.out.1 hk
      · exact HN7.out.2.1 hk
      · exact HN7.out.2.2.1 hk
      · exact HN7.out.2.2.2 hk
    have hl1 := lay_any hT7 (fun k hk => Nat.lt_of_lt_of_le hk.2 HC7.out.size) HP7.out HN7.out rfl rfl 65536 cn _ codeP ent_code (by have := HSh.out; omega) (by have := HSh.out; omega) hL1
    have HL1 := Lib.hid hl1
    have HT7 := Lib.hid hT7
    obtain ⟨R1, hR1⟩ : ∃ R1, layF 0 65536 codeP cn 0 (t0S n) [] = R1 := ⟨_, rfl⟩
    rw [hR1] at HL1
    have HR1 := Lib.hid hR1
    have b0 := HB7.out.cell' (i := 0) (v := .int .i64 cn) rfl
    have bl := HB7.out.lt
    clear hT7 hl1 hR1 p6 pl pf
    go_wp2_with fail
    refine HL1.out.mono ?_
    rintro e w8 ⟨v8, rfl, x1, SM1, rfl, hz1, hA1⟩
    obtain ⟨q1, c1, hx1⟩ := hA1.out.form
    subst hx1
    have HA1 := Lib.hid hA1
    have HZ1 := Lib.hid hz1
    have HP9 := Lib.hid (hA1.blk.set 8 (.slice q1 R1.1.1.length c1))
    have HC9' := Lib.hid ((Chg.refl (fun k => k = pb) w8).setCell (a := ⟨pb, 8, none⟩) (.inl rfl) (.slice q1 R1.1.1.length c1))
    have hsz7 : w6.heap.size ≤ w7.heap.size ∧ tb < w6.heap.size ∧ w7.heap.size ≤ w8.heap.size := ⟨HC7.out.size, HT6.out.tab.lt, hA1.chg.size⟩
    have HSZ7 := Lib.hid hsz7
    have HB8 := Lib.hid (hA1.chg.blk HB7.out (fun e => by
      have := HSZ.out
      have := HPL.out
      have := HTB.out
      have := HB.out.lt
      have := HC1.out.size
      rcases e with e | e | e | e <;> omega))
    have p8 := hA1.blk.cell
    have pl := hA1.blk.lt
    have pf := hA1.blk.frozen
    clear hA1 hz1 b0 bl hsz7
    go_upto_region 17 with fail
    generalize w8.setCell ⟨pb, 8, none⟩ (.slice q1 R1.1.1.length c1) = w9 at *
    have HN9 := Lib.hid (show ¬ SM1 pb ∧ pb ≠ mp + 1 ∧ pb ≠ mp ∧ pb ≠ tb from ⟨fun e => by
      have := HSZ.out
      have := HPL.out
      have := HTB.out
      have := HSZ7.out
      rcases (HA1.out.bd pb e).2 with e | e <;> omega, HN7.out.2⟩)
    have hT9 : TabAt w9 SM1 mb n (mp + 1) mp tb 0 R1.2 := HA1.out.tab.chg HC9'.out fun k hk e => by
      have e : k = pb := e
      subst e
      rcases hk with hk | hk | hk | hk
      · exact HN9.out.1 hk
      · exact HN9.out.2.1 hk
      · exact HN9.out.2.2.1 hk
      · exact HN9.out.2.2.2 hk
    have hL2' : LayOk n 0 131072 ownP pn 0 R1.2 := by rw [← HR1.out]; exact hL2
    have hl2 := lay_any hT9 (fun k hk => Nat.lt_of_lt_of_le (HA1.out.bd k hk).1 HC9'.out.size) HP9.out HN9.out rfl rfl 131072 pn _ ownP ent_own (by have := HSh.out; omega) (by have := HSh.out; omega) hL2'
    have HL2 := Lib.hid hl2
    have HT9 := Lib.hid hT9
    obtain ⟨R2, hR2⟩ : ∃ R2, layF 0 131072 ownP pn 0 R1.2 [] = R2 := ⟨_, rfl⟩
    rw [hR2] at HL2
    have HR2 := Lib.hid hR2
    have b1 := (HC9'.out.blk HB8.out (by show bs ≠ pb; have := HSZ.out; have := HPL.out; have := HB.out.lt; have := HC1.out.size; omega)).cell' (i := 1) (v := .int .i64 pn) rfl
    have bl := (HC9'.out.blk HB8.out (by show bs ≠ pb; have := HSZ.out; have := HPL.out; have := HB.out.lt; have := HC1.out.size; omega)).lt
    clear hT9 hL2' hl2 hR2 p8 pl pf
    go_wp2_with fail
    refine HL2.out.mono ?_
    rintro e w10 ⟨v10, rfl, x2, SM2, rfl, hz2, hA2⟩
    obtain ⟨q2, c2, hx2⟩ := hA2.out.form
    subst hx2
    have HA2 := Lib.hid hA2
    have HZ2 := Lib.hid hz2
    have HP11 := Lib.hid (hA2.blk.set 9 (.slice q2 R2.1.1.length c2))
    have HC11 := Lib.hid ((Chg.refl (fun k => k = pb) w10).setCell (a := ⟨pb, 9, none⟩) (.inl rfl) (.slice q2 R2.1.1.length c2))
    have p10 := hA2.blk.cell
    have pl := hA2.blk.lt
    have pf := hA2.blk.frozen
    have HN11 := Lib.hid (show ¬ SM2 pb from fun e => by
      have := HPL.out
      have := HTB.out
      have := HSZ.out
      have := HSZ7.out
      have := HC9'.out.size
      rcases (HA2.out.bd pb e).2 with e | e
      · exact HN9.out.1 e
      · omega)
    clear hA2 hz2 b1 bl
    go_upto_region 20 with fail
    generalize w10.setCell ⟨pb, 9, none⟩ (.slice q2 R2.1.1.length c2) = w11 at *
    have hT11 : TabAt w11 SM2 mb n (mp + 1) mp tb 0 R2.2 := HA2.out.tab.chg HC11.out fun k hk e => by
      have e : k = pb := e
      subst e
      rcases hk with hk | hk | hk | hk
      · exact HN11.out hk
      · exact HN9.out.2.1 hk
      · exact HN9.out.2.2.1 hk
      · exact HN9.out.2.2.2 hk
    -- from the literal on nothing but the memory, the space's own block and what is newer has changed
    have hch : Chg (fun k => (w1.heap.size ≤ k ∧ k < w2.heap.size) ∨ k = pb ∨ mp ≤ k) wc w11 := by
      have h5 := HC4.out.mono (S' := fun k => (w1.heap.size ≤ k ∧ k < w2.heap.size) ∨ k = pb ∨ mp ≤ k) fun _ _ e => e.elim
      have hs := HSZ.out
      have hp := HPL.out
      have ht := HTB.out
      have h7 := HSZ7.out
      have h9 := HC9'.out.size
      refine ((((((h5.trans HC5.out fun k _ e => .inr (.inl e)).trans HC6.out fun k _ e => ?_).trans HC7.out fun k _ e => .inr (.inl e)).trans HA1.out.chg fun k _ e => ?_).trans HC9'.out fun k _ e => .inr (.inl e)).trans HA2.out.chg fun k _ e => ?_).trans HC11.out fun k _ e => .inr (.inl e)
      · rcases e with e | e | e <;> omega
      · rcases e with e | e | e | e <;> omega
      · rcases e with e | e | e | e
        · rcases (HA1.out.bd k e).2 with e | e <;> omega
        all_goals omega
    have HCH := Lib.hid hch
    have HT11 := Lib.hid hT11
    have hubr : w3.heap.size ≤ ub ∧ ub < mp ∧ pb ≠ ub := ⟨HNe.out.2.2.2.2.2.2.2.1, by have := HUb.out.lt; rw [HMP.out] at this; exact this, HNe.out.2.2.2.1⟩
    have HUBR := Lib.hid hubr
    have HU11 := Lib.hid (hch.blk HUb.out (fun e => by have := HSZ.out; omega))
    have p11 : ∀ w', Chg NoB w11 w' → _ := HP11.out.ever
    have pl11 : ∀ w', Chg NoB w11 w' → _ := HP11.out.everL
    have cc := Chg.refl NoB w11
    have HRo : Hid (∀ w', Chg NoB w11 w' → Calls Tryz.prog 40 #[.pointer (some ⟨tb, 0, none⟩)] w' (RetW (.int .i64 0) fun w'' => w'' = w')) := Lib.hid fun w' c => root_any (HT11.out.chg0 c)
    have HPS := Lib.hid fun w' => putSatp_any ⟨true, 1, 0⟩ ⟨by show (0 : Int) ≤ 1; decide, by show (1 : Int) < 65536; decide, by show 0 < 17592186044416; decide⟩ w'
    have HSS := Lib.hid fun w' hb => unitSatp_any (w := w') (ub := ub) (mb := mb) (bb := bb) hb 0 (by omega)
    have HSM := Lib.hid fun w' hb => unitMode_any (w := w') (ub := ub) (mb := mb) (bb := bb) (root := 0) hb
    dsimp only at HPS
    obtain ⟨W, hW⟩ : ∃ W, satpW ⟨true, 1, 0⟩ = W := ⟨_, rfl⟩
    rw [hW] at HPS HSS
    clear hch hT11 hubr p10 pl pf hW
    refine wp_region_mix 12 [(true, 0), (true, 1), (true, 2), (true, 3), (true, 4), (true, 5), (true, 6), (true, 7), (false, 8), (true, 9), (true, 10), (false, 11)] (fun w' => Chg NoB w11 w') (by kernel_rfl) (by kernel_rfl) (fun _ _ _ _ _ h => h) (cc.drew) ?_
    simp only [pickMix_nil, pickMix_cons, Option.getD_some, List.getElem?_toArray, List.getElem?_cons_zero, List.getElem?_cons_succ, List.cons_append, List.nil_append, List.drop_succ_cons, List.drop_zero]
    iterate 8
     refine wpMix_take rfl ?_
     apply Exists.intro
     refine ⟨fun wS hS => ?_, ?_⟩
     · try dsimp only at hS
       have cS := hS
       go_simp
       try rfl
     simp only [Act.put, List.setIfInBounds_toArray, List.set_cons_zero, List.set_cons_succ]
    refine wpMix_force rfl (fun K hK => ?_)
    go_simp
    refine (HRo.out _ cc.drew).mono ?_
    rintro e wd ⟨rfl, hwd⟩
    subst hwd
    refine hK _ _ cc.drew ?_
    clear hK K
    iterate 2
     refine wpMix_take rfl ?_
     apply Exists.intro
     refine ⟨fun wS hS => ?_, ?_⟩
     · try dsimp only at hS
       have cS := hS
       go_simp
       try rfl
     simp only [Act.put, List.setIfInBounds_toArray, List.set_cons_zero, List.set_cons_succ]
    refine wpMix_force rfl (fun K hK => ?_)
    go_simp
    refine (HPS.out _).mono ?_
    rintro e wd ⟨rfl, hCd⟩
    have cd := cc.drew.step hCd
    refine hK _ _ cd ?_
    clear hK K hCd
    refine wpMix_nil ?_
    go_wp2_with fail
    refine (HSS.out _ (cd.blk0 HU11.out)).mono ?_
    rintro e w12 ⟨rfl, hU12, hC12⟩
    have HU12 := Lib.hid hU12
    have HC12 := Lib.hid ((cd.mono (S' := fun k => k = ub) fun _ _ e => e.elim).step hC12)
    have HP12 := Lib.hid (hC12.blk (cd.blk0 HP11.out) (by show pb ≠ ub; exact HUBR.out.2.2))
    have p12 := HP12.out.cell
    have pl12 := HP12.out.lt
    clear p11 pl11 cc cd hU12 hC12
    go_wp2_with fail
    refine (HSM.out _ HU12.out).mono ?_
    rintro e w13 ⟨rfl, hU13, hC13⟩
    have HX : Hid (∃ L : Pl, L.pb = pb ∧ SpAt w13 L (newS ⟨cn, pn, s⟩ n sets ways) ∧ (∀ k, L.All k → w.heap.size ≤ k) ∧ Chg NoB w w13) := Lib.hid (by
      have hs := HSZ.out
      have hp := HPL.out
      have ht := HTB.out
      have h7 := HSZ7.out
      have h9 := HC9'.out.size
      have hm := HMP.out
      have hb := HBB.out
      have h1 := HMB.out
      have hu := HUBR.out
      have hne := HNe.out
      have h8 := HC11.out.size
      have h10 := HA2.out.chg.size
      have hd1 := HA1.out.bd
      have hd2 := HA2.out.bd
      have hx := (Array.getElem?_eq_some_iff.1 HXb.out).1
      have hr := (Array.getElem?_eq_some_iff.1 HRb.out).1
      rw [hm] at hx hr
      have c13 : Chg (fun k => k = ub) w11 w13 := HC12.out.step hC13
      have hz13 := c13.size
      have hR1 := HR1.out
      have hR2 := HR2.out
      have hns : newS ⟨cn, pn, s⟩ n sets ways = ⟨⟨cn, pn, s⟩, ⟨R2.2.b, n, tlbNew sets ways, ⟨true, 1, 0⟩, ⟨true, false, false⟩⟩, R2.2.s, 0, R2.2.used, R1.1.1, R2.1.1, [], []⟩ := by
        unfold newS
        rw [← hR2, ← hR1]
        rfl
      have hSM2 : ∀ k, SM2 k → (w1.heap.size ≤ k ∧ k < w2.heap.size) ∨ mp ≤ k := fun k hk => by
        rcases (hd2 k hk).2 with e | e
        · rcases (hd1 k e).2 with e | e
          · rcases e.1 with e | e
            · exact .inl e
            · exact .inr (by omega)
          · exact .inr (by omega)
        · exact .inr (by omega)
      have hnb : ∀ b, (w3.heap.size ≤ b ∧ b < tb + 1) → ¬ SM2 b := fun b hb e => by
        rcases (hd2 b e).2 with e | e
        · rcases (hd1 b e).2 with e | e
          · rcases e.1 with e | e <;> omega
          · omega
        · omega
      refine ⟨⟨pb, mb, mp + 1, mp, tb, bb, ub, xb, rb, SM2, fun k => bb ≤ k ∧ k < w3.heap.size, fun k => (w6.heap.size ≤ k ∧ k < w8.heap.size ∧ ¬ SM1 k ∧ ¬ SM2 k) ∨ (w9.heap.size ≤ k ∧ k < w10.heap.size ∧ ¬ SM2 k), .slice q1 R1.1.1.length c1, .slice q2 R2.1.1.length c2⟩, rfl, ?_, ?_, ?_⟩
      · rw [hns]
        have hT13 : TabAt w13 SM2 mb n (mp + 1) mp tb 0 R2.2 := HT11.out.chg c13 fun k hk e => by
          have e : k = ub := e
          subst e
          rcases hk with hk | hk | hk | hk
          · exact hnb _ (by omega) hk
          all_goals omega
        refine ⟨hC13.blk HP12.out (by show pb ≠ ub; omega), hT13, ⟨hU13, hT13.mem, ?_, rfl, rfl, rfl, by show 0 < 17592186044416; decide, hn2, fun e => hnb ub (by omega) e, fun e => by have e : bb ≤ ub ∧ ub < w3.heap.size := e; omega, fun k hk e => by
            have e : bb ≤ k ∧ k < w3.heap.size := e
            rcases hSM2 k hk with e' | e' <;> omega, fun k hk => by have hk : bb ≤ k ∧ k < w3.heap.size := hk; omega⟩, rfl, hn1, ?_, ?_, ?_, ?_, ⟨?_, ?_, fun k hk => ⟨fun e => by rcases hSM2 k hk with e' | e' <;> omega, fun e => ?_⟩, fun k hk e => by rcases e with e | e <;> omega, fun k hk => ?_⟩⟩
        · have h := (HT3.out.chg0 HC9.out).chg HCH.out fun k hk e => by omega
          exact h.chg c13 fun k hk e => by have e : k = ub := e; omega
        · have h := HA1.out.out.sl.monoIn (S' := fun k => (w7.heap.size ≤ k ∧ ¬ SM1 k) ∧ k < w8.heap.size) fun k hk e => ⟨e, hk⟩
          have h := (((h.chg HC9'.out fun k hk e => by have e : k = pb := e; omega).chg HA2.out.chg fun k hk e => by
            rcases e with e | e | e | e
            · exact hk.1.2 e
            all_goals omega).chg HC11.out fun k hk e => by have e : k = pb := e; omega).chg c13 fun k hk e => by have e : k = ub := e; omega
          refine h.mono fun k hk => .inl ⟨by omega, hk.2, hk.1.2, fun e => ?_⟩
          rcases (hd2 k e).2 with e | e
          · exact hk.1.2 e
          · omega
        · have h := HA2.out.out.sl.monoIn (S' := fun k => (w9.heap.size ≤ k ∧ ¬ SM2 k) ∧ k < w10.heap.size) fun k hk e => ⟨e, hk⟩
          have h := (h.chg HC11.out fun k hk e => by have e : k = pb := e; omega).chg c13 fun k hk e => by have e : k = ub := e; omega
          exact h.mono fun k hk => .inr ⟨hk.1.1, hk.2, hk.1.2⟩
        · exact MapAt.ofNew ((c13.block xb (by have := HCH.out.size; omega) (by omega)).trans ((HCH.out.block xb (by omega) (by omega)).trans HXb.out))
        · exact MapAt.ofNew ((c13.block rb (by have := HCH.out.size; omega) (by omega)).trans ((HCH.out.block rb (by omega) (by omega)).trans HRb.out))
        · simp only [Pl.names, List.nodup_cons, List.mem_cons, List.not_mem_nil, or_false, not_or, List.nodup_nil, and_true, not_false_eq_true]
          refine ⟨⟨?_, ?_, ?_, ?_, ?_, ?_⟩, ⟨?_, ?_, ?_, ?_, ?_⟩, ⟨?_, ?_, ?_, ?_⟩, ⟨?_, ?_, ?_⟩, ⟨?_, ?_⟩, ?_⟩ <;> omega
        · intro b hb
          simp only [Pl.names, List.mem_cons, List.not_mem_nil, or_false] at hb
          have hb' : w3.heap.size ≤ b ∧ b < tb + 1 := by omega
          exact ⟨by omega, hnb b hb', fun e => by omega, fun e => by rcases e with e | e <;> omega⟩
        · rcases e with e | e
          · exact e.2.2.2 hk
          · exact e.2.2 hk
        · rcases hk with hk | hk | hk
          · have := (hd2 k hk).1; omega
          · omega
          · rcases hk with hk | hk <;> omega
      · intro k hk
        rcases hk with hk | hk | hk | hk
        · simp only [Pl.names, List.mem_cons, List.not_mem_nil, or_false] at hk
          omega
        · rcases hSM2 k hk with e | e <;> omega
        · omega
        · rcases hk with e | e <;> omega
      · have h0 : Chg NoB w wc := (HC.out.step HC03.out).step HC9.out
        exact ((h0.trans HCH.out fun k hk e => by omega).trans c13 fun k hk e => by have e : k = ub := e; omega))
    have p13 := (hC13.blk HP12.out (by show pb ≠ ub; exact HUBR.out.2.2)).lt
    clear hU13 hC13 p12 pl12
    obtain ⟨L, hL, hX1, hX2, hX3⟩ := HX.out
    have HL := Lib.hid hL
    have HX' := Lib.hid (And.intro hX1 (And.intro hX2 hX3))
    clear hL hX1 hX2 hX3
    go_wp2_with fail
    go_ret2
    exact ⟨_, rfl, L, by rw [HL.out]; rfl, HX'.out⟩
end Go.Proofs.YtdjaeoeejcmhdaaGreatDoor
