/-
  Plain words of layer 21: the choices of rows that may be, may be; no program in sight.
-/
import Derived.Laws.EntriesVeiled
import Derived.Deep.OwnRows
import Derived.StillTailTactics
import Derived.Test.YtfhnamomiaekdaaGreatDoorGSiGraphWB
import Derived.Test.YtfhnamomiaekdaaGreatDoorGSiGraphWC
import Derived.Test.YtfhnamomiaekdaaGreatDoorG06
import Derived.Test.YtfhnamomiaekdaaGreatDoorG04
set_option linter.unusedVariables false
set_option linter.unusedSimpArgs false
namespace Go.Proofs.YtfhnamomiaekdaaGreatDoor
open Go.RowKit Go.Inq

theorem ofC_one {H : List Txn} {o : List Int} {p : Cho} (h : oneB H p = true) : oneB H (ofC o p) = true := by
  unfold ofC
  split
  · exact turn_one h
  · exact h
theorem choS_rightC {H : List Txn} {R : List SRow} (h : rightS H R = true) : rightC H (choS H R) = true := by
  have hok := (okS_iff H R).1 h
  have he : choS H R = (R.map (choR H)).flatten := by unfold choS; rw [h]; rfl
  have ht : choS H R = choTo H R R.length := by unfold choTo; rw [he, List.take_length]
  have hl := choTo_len (H := H) (R := R) ((rightH_iff H).1 hok.right).1 R.length (Nat.le_refl _)
  rw [← ht] at hl
  have hR := hok.len
  unfold rightC
  rw [hok.right, Bool.true_and, Bool.and_eq_true, decide_eq_true_eq, List.all_eq_true]
  refine ⟨by omega, fun c hc => ?_⟩
  rw [he, List.mem_flatten] at hc
  obtain ⟨l, hl, hcl⟩ := hc
  obtain ⟨r, hr, rfl⟩ := List.mem_map.1 hl
  unfold choR at hcl
  obtain ⟨p, hp, rfl⟩ := List.mem_map.1 hcl
  refine ofC_one (pairs_one ?_)
  unfold pairsL
  rw [List.mem_flatten]
  refine ⟨_, List.mem_map.2 ⟨r.key, ?_, rfl⟩, hp⟩
  rw [← hok.keys]
  exact List.mem_map_of_mem hr
theorem choS_no {H : List Txn} {R : List SRow} (h : rightS H R = false) : choS H R = [] ∧ checkS H R = false := by
  refine ⟨by unfold choS; rw [h]; rfl, ?_⟩
  rw [checkS_good, h]; rfl
theorem checkS_yes {H : List Txn} {R : List SRow} (h : rightS H R = true) : checkS H R = !cycB H.length (fullE H 1 (choS H R)) := by
  rw [checkS_good, h]; rfl
end Go.Proofs.YtfhnamomiaekdaaGreatDoor

namespace Go.Proofs.YtfhnamomiaekdaaGreatDoor
open Go.RowKit Go.Inq
set_option maxHeartbeats 4000000
attribute [local go_sem ↓] Go.wp_at_zero Go.wp_at_succ

theorem writes18_any (A : Option Addr) (c : Nat) (H : List Txn) (hn : SmallH H) (t key : Int) (Bh : Nat) (w : World) (h : TxnS w (Old w) (.slice A H.length c) H) (hBh : w.cell? ⟨Bh, 0, none⟩ = some (.slice A H.length c)) :
    Calls Tryz.prog 144 #[.int .i64 t, .int .i64 key, .pointer (some ⟨Bh, 0, none⟩)] w fun e w' => e = .returned (.bool (wrB H t key)) ∧ w = w' := by
  have hlen := hn.1
  by_cases h0 : 0 ≤ t
  · have h0b : decide (t ≥ 0) = true := by simpa using h0
    by_cases h1 : t < (H.length : Int)
    · obtain ⟨m, rfl⟩ : ∃ m : Nat, t = m := ⟨t.toNat, by omega⟩
      have hm : m < H.length := by omega
      have hr := hide (wrB_nat (key := key) hm)
      rw [txnAt_of hm] at hr
      obtain ⟨b, off, Aw, cw, Ar, cr, rfl, _, d0, d1, d2, hws, _⟩ := TxnS.at_ h hm
      have hwl := (hn.2 _ (List.getElem_mem hm)).1
      generalize H[m] = x at *
      obtain ⟨ts, ws, rs⟩ := x
      dsimp only at *
      have hm1 : decide (m < H.length) = true := by simpa using hm
      have hm2 : (0 : Int) ≤ (m : Int) := Int.natCast_nonneg _
      replace hn := hide hn
      clear h h0
      go_enter Tryz.func144, Tryz.ntmps144
      go_wp2_with fail
      refine (contains_int Aw cw ws key _ _ hws (by unfold maxLen; omega)).mono ?_
      rintro e w3 ⟨rfl, rfl⟩
      generalize ws.contains key = cb at *
      go_wp2
      go_ret
      exact ⟨by rw [hr.out]; rfl, rfl⟩
    · have hr : wrB H t key = false := by unfold wrB; simp; intro _ e; exact absurd e h1
      have h1b : decide (t < (H.length : Int)) = false := by simpa using h1
      rw [hr]
      replace hn := hide hn
      clear h h0 h1 hr
      go_enter Tryz.func144, Tryz.ntmps144
      go_wp2
      go_ret
      exact ⟨rfl, rfl⟩
  · have hr : wrB H t key = false := by unfold wrB; simp; intro e; exact absurd e h0
    have h0b : decide (t ≥ 0) = false := by simpa using h0
    rw [hr]
    replace hn := hide hn
    clear h h0 hr
    go_enter Tryz.func144, Tryz.ntmps144
    go_wp2
    go_ret
    exact ⟨rfl, rfl⟩
theorem chk18_any (A : Option Addr) (c : Nat) (H : List Txn) (hn : SmallH H) (x : Cho) (Bh Bf : Nat) (w : World) (h : TxnS w (Old w) (.slice A H.length c) H) (hBh : w.cell? ⟨Bh, 0, none⟩ = some (.slice A H.length c)) (hBf : w.cell? ⟨Bf, 0, none⟩ = some (.func (.func 144) #[] #[.pointer (some ⟨Bh, 0, none⟩)])) :
    Calls Tryz.prog 147 #[.agg #[.int .i64 x.key, .int .i64 x.a, .int .i64 x.b], .pointer (some ⟨Bf, 0, none⟩)] w fun e w' => e = .returned (.bool (!oneB H x)) ∧ Below w.heap.size w w' := by
  obtain ⟨key, a, b⟩ := x
  dsimp only
  obtain ⟨W0, hW0⟩ : ∃ W0, w.alloc (.cells #[.int .i64 key, .int .i64 a, .int .i64 b] 102) = W0 := ⟨_, rfl⟩
  have hB := below_allocEq (Below.refl w.heap.size w) hW0 (Nat.le_refl _)
  have k0 := Blk.newEq hW0
  have hBh2 := (hB.cell (p := ⟨Bh, 0, none⟩) (block_lt_of_cell hBh)).trans hBh
  have hBf2 := (hB.cell (p := ⟨Bf, 0, none⟩) (block_lt_of_cell hBf)).trans hBf
  have h2 := hide (h.below hB)
  have c0 := k0.cell 0
  have c1 := k0.cell 1
  have c2 := k0.cell 2
  simp only [List.getElem?_toArray, List.getElem?_cons_zero, List.getElem?_cons_succ] at c0 c1 c2
  replace hn := hide hn
  clear h hBh hBf
  by_cases h0 : a = b
  · have hr : oneB H ⟨key, a, b⟩ = false := by unfold oneB; simp [h0]
    have h0b : (a == b) = true := by simpa using h0
    rw [hr]
    clear h0 hr
    go_enter Tryz.func147, Tryz.ntmps147
    go_wp2
    go_ret
    exact ⟨rfl, hB⟩
  · have hr : oneB H ⟨key, a, b⟩ = (wrB H a key && wrB H b key) := by unfold oneB; simp [h0]
    have h0b : (a == b) = false := by simpa using h0
    rw [hr]
    clear h0 hr
    go_enter Tryz.func147, Tryz.ntmps147
    go_wp2_with fail
    clear hW0
    refine (writes18_any A c H hn.out a key Bh _ h2.out hBh2).mono ?_
    rintro e w1 ⟨rfl, rfl⟩
    cases hw : wrB H a key with
    | false =>
      replace hw := hide hw
      go_wp2
      go_ret
      exact ⟨by rw [hw.out]; rfl, hB⟩
    | true =>
      replace hw := hide hw
      go_wp2_with fail
      refine (writes18_any A c H hn.out b key Bh _ h2.out hBh2).mono ?_
      rintro e w1 ⟨rfl, rfl⟩
      go_wp2
      go_ret
      exact ⟨by rw [hw.out]; rfl, hB⟩
set_option maxRecDepth 100000 in
theorem right18_any (A : Option Addr) (c : Nat) (H : List Txn) (Al : Option Addr) (cl : Nat) (l : List Cho) (w : World) (h : TxnS w (Old w) (.slice A H.length c) H) (hn : SmallH H) (hl : ChoS w (Old w) (.slice Al l.length cl) l) (hln : l.length ≤ 1000000000) :
    Calls Tryz.prog 80 #[.agg #[.slice A H.length c], .slice Al l.length cl] w fun e w' => e = .returned (.bool (rightC H l)) ∧ Below w.heap.size w w' := by
  obtain ⟨W0, hW0⟩ : ∃ W0, w.alloc (.cells #[.slice A H.length c] 24) = W0 := ⟨_, rfl⟩
  have hB := below_allocEq (Below.refl w.heap.size w) hW0 (Nat.le_refl _)
  have k0 := Blk.newEq hW0
  have h2 := hide (h.below hB)
  have hl2 := hide (hl.below hB)
  have c0 := k0.cell 0
  simp only [List.getElem?_toArray, List.getElem?_cons_zero, List.getElem?_cons_succ] at c0
  replace hn := hide hn
  have hs0 := size_allocEq hW0
  replace hs0 := hide hs0
  have hrc : Hid (rightC H l = (rightH H && decide (l.length ≤ 20000) && l.all (oneB H))) := hide rfl
  have hal : Hid (l.all (oneB H) = !(l.any fun x => !oneB H x)) := hide (by rw [Bool.eq_iff_iff]; simp)
  clear h hl
  go_enter Tryz.func80, Tryz.ntmps80
  go_wp2_with fail
  clear hW0 c0
  refine (right8_any A c H _ h2.out hn.out).mono ?_
  rintro e w1 ⟨rfl, hb1⟩
  replace k0 := k0.below hb1 k0.lt
  have hT1 := hide (h2.out.below hb1)
  have hC1 := hide (hl2.out.below hb1)
  have hb := hB.trans (hb1.mono hB.size)
  clear hb1 hB h2 hl2
  cases hr : rightH H with
  | false =>
    rw [hr] at hrc
    clear hr
    go_wp2
    go_ret
    exact ⟨by rw [hrc.out]; rfl, hb⟩
  | true =>
    rw [hr] at hrc
    clear hr
    by_cases hm : l.length ≤ 20000
    · have hm1 : decide ((l.length : Int) > 20000) = false := by simp; omega
      have hm2 : decide (l.length ≤ 20000) = true := by simpa using hm
      rw [hm2] at hrc
      obtain ⟨W2, hW2⟩ : ∃ W2, w1.alloc (.cells #[.func (.func 144) #[] #[.pointer (some ⟨w.heap.size, 0, none⟩)]] 224) = W2 := ⟨_, rfl⟩
      have hB2 := below_allocEq (Below.refl w1.heap.size w1) hW2 (Nat.le_refl _)
      have kF := Blk.newEq hW2
      have hT2 := hT1.out.below hB2
      have hC2 := hC1.out.below hB2
      have k02 := k0.allocEq hW2
      have hb2 := hb.trans (hB2.mono hb.size)
      have hcall := hide (containsC_any 147 (enters_of Tryz.func147 (by kernel_rfl) rfl) #[.pointer (some ⟨w1.heap.size, 0, none⟩)] (fun x => !oneB H x) Al cl l W2 hC2 (by omega) (fun W hbW x _ =>
        chk18_any A c H hn.out x w.heap.size w1.heap.size W (hT2.below hbW) (by have := (k02.below hbW k02.lt).cell 0; simpa using this) (by have := (kF.below hbW kF.lt).cell 0; simpa using this)))
      clear hm hm2 hB2 kF hT1 hC1 hT2 hC2 k0 k02
      go_wp2_with fail
      clear hW2
      refine hcall.out.mono ?_
      rintro e w3 ⟨rfl, hb3⟩
      have hb4 := hb2.trans (hb3.mono hb2.size)
      clear hcall
      go_wp2
      go_ret
      exact ⟨by rw [hrc.out, hal.out]; simp, hb4⟩
    · have hm1 : decide ((l.length : Int) > 20000) = true := by simp; omega
      have hm2 : decide (l.length ≤ 20000) = false := by simpa using hm
      rw [hm2] at hrc
      clear hm hm2
      go_wp2
      go_ret
      exact ⟨by rw [hrc.out]; rfl, hb⟩
end Go.Proofs.YtfhnamomiaekdaaGreatDoor

namespace Go.Proofs.YtfhnamomiaekdaaGreatDoor
open Go.RowKit Go.Inq
set_option maxHeartbeats 2000000
attribute [local go_sem ↓] Go.wp_at_zero Go.wp_at_succ

theorem infoU12 : (Tryz.prog.info? 172).map (fun i => (i.zero, i.size, i.bytes)) = some (some (.int .u64 0), 1, 8) := by kernel_rfl
/-- What makes a graph tells. -/
abbrev OutG := NewG 172
theorem new12_any (n : Nat) (hn : n ≤ 64) (w : World) : Calls Tryz.prog 166 #[.int .i64 n] w (OutG w n noE) := by
  have hmk : ∀ W : World, (Instr.makeSlice 75 (.int .i64 (n : Int)) (.int .i64 (n : Int))).run Tryz.prog W = .ok (.slice (some ⟨W.heap.size, 0, none⟩) n n) (W.alloc (.cells (madeCells #[.int .u64 0] n) 172)) :=
    fun W => run_make_row' (P := Tryz.prog) 75 172 (.int .u64 0) 8 Tryz.underlying75 infoU12 rfl .i64 .i64 n (by omega) (by omega) W
  have h1 : decide ((n : Int) < 0) = false := by simp
  have h2 : decide ((n : Int) > 64) = false := by simp; omega
  have hno := hide (rowsB_no n)
  go_enter Tryz.func166, Tryz.ntmps166
  go_wp2
  refine bodyPost_ret (v := .tuple #[.agg #[.int .i64 n, .slice (some ⟨w.heap.size + 1, 0, none⟩) n n], .int .i64 0]) (by simp [results, Tryz.results166, go_sem]) rfl ?_
  refine ⟨w.heap.size + 1, by omega, rfl, ?_, ?_⟩
  · rw [hno.out]
    have := Blk.new (w.alloc (.cells #[.int .i64 n, .slice (some ⟨w.heap.size + 1, 0, none⟩) n n] 77)) 172 (madeCells #[.int .u64 0] n)
    simpa using this
  · exact ((Below.refl _ _).alloc (Nat.le_refl _) _).alloc (by simp) _
theorem right12_any (n : Nat) (A : Option Addr) (c : Nat) (E : Edges) (K : Nat → Prop) (w : World) (h : GrS w K n A c E) (hK : ∀ b, K b → b < w.heap.size) :
    Calls Tryz.prog 101 #[.agg #[.int .i64 n, .slice A n c]] w fun e w' => e = .returned (.bool true) ∧ Below w.heap.size w w' := by
  have h1 : decide ((n : Int) ≥ 0) = true := by simp
  have h2 : decide ((n : Int) ≤ 64) = true := by have := h.n64; simp; omega
  have hB : Below w.heap.size w (w.alloc (.cells #[.int .i64 n, .slice A n c] 77)) := (Below.refl _ _).alloc (Nat.le_refl _) _
  have k0 : Blk (w.alloc (.cells #[.int .i64 n, .slice A n c] 77)) w.heap.size 77 #[.int .i64 n, .slice A n c] := Blk.new _ _ _
  have hs := h.sl.keep (Agree.below hB hK) (fun b hb => hb)
  have hx : ∀ x ∈ rowsG n E, x < 18446744073709551616 := fun x hx => Nat.lt_of_lt_of_le (rowsG_lt hx) (pow_le_64 h.n64)
  have hsub := hide (sub_nodes h.n64 (l := rowsG n E) fun x hx => rowsG_lt hx)
  have hjl := hide (joinL_lt (l := rowsG n E) (n := 64) hx)
  have hpl := hide (show 2 ^ n - 1 < 18446744073709551616 by have := pow_le_64 h.n64; have := Nat.two_pow_pos n; omega)
  have hnn := hide h.n64
  replace hx := hide hx
  replace hs := hide hs
  clear h hK
  go_enter Tryz.func101, Tryz.ntmps101
  go_wp2
  generalize w.alloc (.cells #[.int .i64 n, .slice A n c] 77) = W at *
  have c0 := k0.cell 0
  have c1 := k0.cell 1
  simp only [List.getElem?_toArray, List.getElem?_cons_zero, List.getElem?_cons_succ] at c0 c1
  go_quiet ((first | (go_at_call 171; exact Calls.quiet_of_same ((join10_any A n c (rowsG n E) K _ (rowsG_length n E) (hs.out.keep (Agree.drewN _ _ _) (fun _ h => h)) hx.out (by have := hnn.out; omega)).mono fun _ _ h => ⟨h.1, h.2.symm⟩)) | (go_at_call 172; exact Calls.quiet_of_same ((nodes12_any n hnn.out _).mono fun _ _ h => ⟨h.1, h.2.symm⟩)) | (go_at_call 133; exact Calls.quiet_of_same ((sub10_any _ _ hjl.out hpl.out _).mono fun _ _ h => ⟨h.1, h.2.symm⟩))))
  rw [hsub.out]
  go_wp2
  go_ret
  exact ⟨rfl, hB.trans ⟨rfl, rfl, rfl, Nat.le_refl _, fun _ _ => rfl⟩⟩

theorem hB_box {w : World} {o : Obj} : Below w.heap.size w (w.alloc o) := (Below.refl _ _).alloc (Nat.le_refl _) _
/-- Is there an edge, of whatever numbers? -/
def hasE (n : Nat) (E : Edges) (a b : Int) : Bool := decide (0 ≤ a) && decide (a < (n : Int)) && Go.Inq.hasB (setB (E a.toNat) n) b
theorem hasE_nat {n : Nat} {E : Edges} {a b : Nat} (ha : a < n) (hb : b < n) : hasE n E (a : Int) (b : Int) = E a b := by
  unfold hasE
  rw [hasB_nat, Int.toNat_natCast, testBit_setB]
  simp [ha, hb]
theorem has12_any (n : Nat) (A : Option Addr) (c : Nat) (E : Edges) (a b : Int) (K : Nat → Prop) (w : World) (h : GrS w K n A c E) (hK : ∀ b, K b → b < w.heap.size) :
    Calls Tryz.prog 175 #[.agg #[.int .i64 n, .slice A n c], .int .i64 a, .int .i64 b] w fun e w' => e = .returned (.bool (hasE n E a b)) ∧ Below w.heap.size w w' := by
  have hB : Below w.heap.size w (w.alloc (.cells #[.int .i64 n, .slice A n c] 77)) := hB_box
  have k0 : Blk (w.alloc (.cells #[.int .i64 n, .slice A n c] 77)) w.heap.size 77 #[.int .i64 n, .slice A n c] := Blk.new _ _ _
  have hg := h.keep (Agree.below hB hK) (fun b hb => hb)
  have hK2 : ∀ b, K b → b < (w.alloc (.cells #[.int .i64 n, .slice A n c] 77)).heap.size := fun b hb => by have := hK b hb; simp; omega
  replace hK := hide hK
  replace hg := hide hg
  replace h := hide h
  by_cases h0 : 0 ≤ a
  · have h0b : decide (a ≥ 0) = true := by simpa using h0
    by_cases h1 : a < (n : Int)
    · obtain ⟨m, rfl⟩ : ∃ m : Nat, a = m := ⟨a.toNat, by omega⟩
      have h1b : decide ((m : Int) < (n : Int)) = true := by simpa using h1
      have hr : hasE n E (m : Int) b = Go.Inq.hasB (setB (E m) n) b := by unfold hasE; simp; omega
      rw [hr]
      have hm : m < n := by omega
      obtain ⟨bb, off, rfl, hbK, hc⟩ := hg.out.at_ hm
      have h64 := hide (setB_64 (p := E m) h.out.n64)
      clear hr
      go_enter Tryz.func175, Tryz.ntmps175
      go_wp2_with fail
      refine (right12_any n _ c E K _ hg.out hK2).mono ?_
      rintro e w1 ⟨rfl, hb1⟩
      replace hc := (hb1.cell (p := ⟨bb, off + m, none⟩) (hK2 _ hbK)).trans hc
      replace k0 := k0.below hb1 k0.lt
      have hb2 := hB.trans (hb1.mono hB.size)
      have c0 := k0.cell 0
      have c1 := k0.cell 1
      simp only [List.getElem?_toArray, List.getElem?_cons_zero, List.getElem?_cons_succ] at c0 c1
      clear k0 hb1 hB hK2
      go_wp2_with (go_at_call 102; refine (has10_any _ h64.out _ _).mono ?_; rintro e w3 ⟨rfl, rfl⟩)
      go_ret
      exact ⟨rfl, hb2⟩
    · have h1b : decide (a < (n : Int)) = false := by simpa using h1
      have hr : hasE n E a b = false := by unfold hasE; rw [h1b]; simp
      rw [hr]
      clear hr
      go_enter Tryz.func175, Tryz.ntmps175
      go_wp2_with fail
      refine (right12_any n _ c E K _ hg.out hK2).mono ?_
      rintro e w1 ⟨rfl, hb1⟩
      replace k0 := k0.below hb1 k0.lt
      have hb2 := hB.trans (hb1.mono hB.size)
      have c0 := k0.cell 0
      have c1 := k0.cell 1
      simp only [List.getElem?_toArray, List.getElem?_cons_zero, List.getElem?_cons_succ] at c0 c1
      clear k0 hb1 hB hK2
      go_wp2
      go_ret
      exact ⟨rfl, hb2⟩
  · have h0b : decide (a ≥ 0) = false := by simpa using h0
    have hr : hasE n E a b = false := by unfold hasE; simp [h0]
    rw [hr]
    clear hr
    go_enter Tryz.func175, Tryz.ntmps175
    go_wp2_with fail
    refine (right12_any n _ c E K _ hg.out hK2).mono ?_
    rintro e w1 ⟨rfl, hb1⟩
    have hb2 := hB.trans (hb1.mono hB.size)
    clear k0 hb1 hB hK2
    go_wp2
    go_ret
    exact ⟨rfl, hb2⟩
theorem like12_any (n : Nat) (A A' : Option Addr) (c c' : Nat) (E E' : Edges) (K : Nat → Prop) (w : World) (h : GrS w K n A c E) (h' : GrS w K n A' c' E') (hK : ∀ b, K b → b < w.heap.size) :
    Calls Tryz.prog 170 #[.agg #[.int .i64 n, .slice A n c], .agg #[.int .i64 n, .slice A' n c']] w fun e w' => e = .returned (.bool true) ∧ Below w.heap.size w w' := by
  have hB : Below w.heap.size w ((w.alloc (.cells #[.int .i64 n, .slice A n c] 77)).alloc (.cells #[.int .i64 n, .slice A' n c'] 77)) := hB_box.alloc (by simp) _
  have k0 : Blk ((w.alloc (.cells #[.int .i64 n, .slice A n c] 77)).alloc (.cells #[.int .i64 n, .slice A' n c'] 77)) w.heap.size 77 #[.int .i64 n, .slice A n c] := (Blk.new _ _ _).alloc _
  have k1 : Blk ((w.alloc (.cells #[.int .i64 n, .slice A n c] 77)).alloc (.cells #[.int .i64 n, .slice A' n c'] 77)) (w.heap.size + 1) 77 #[.int .i64 n, .slice A' n c'] := by
    have := Blk.new (w.alloc (.cells #[.int .i64 n, .slice A n c] 77)) 77 #[.int .i64 n, .slice A' n c']
    simpa using this
  have hg := hide (h.keep (Agree.below hB hK) (fun b hb => hb))
  have hg' := hide (h'.keep (Agree.below hB hK) (fun b hb => hb))
  have hK2 : ∀ b, K b → b < ((w.alloc (.cells #[.int .i64 n, .slice A n c] 77)).alloc (.cells #[.int .i64 n, .slice A' n c'] 77)).heap.size := fun b hb => by have := hK b hb; simp; omega
  clear h h'
  replace hK := hide hK
  go_enter Tryz.func170, Tryz.ntmps170
  go_wp2_with fail
  refine (right12_any n _ c E K _ hg.out hK2).mono ?_
  rintro e w1 ⟨rfl, hb1⟩
  have hg2 := hide (hg'.out.keep (Agree.below hb1 hK2) (fun b hb => hb))
  have hK3 : ∀ b, K b → b < w1.heap.size := fun b hb => Nat.lt_of_lt_of_le (hK2 b hb) hb1.size
  replace k0 := k0.below hb1 k0.lt
  replace k1 := k1.below hb1 k1.lt
  have hb2 := hB.trans (hb1.mono hB.size)
  have c0 := k0.cell 0
  have c1 := k0.cell 1
  have d0 := k1.cell 0
  have d1 := k1.cell 1
  simp only [List.getElem?_toArray, List.getElem?_cons_zero, List.getElem?_cons_succ] at c0 c1 d0 d1
  clear hg hg' hb1 hB
  replace hK2 := hide hK2
  go_wp2_with fail
  refine (right12_any n _ c' E' K _ hg2.out hK3).mono ?_
  rintro e w3 ⟨rfl, hb3⟩
  replace k0 := k0.below hb3 k0.lt
  replace k1 := k1.below hb3 k1.lt
  have hb4 := hb2.trans (hb3.mono hb2.size)
  clear c0 c1 d0 d1
  have c0 := k0.cell 0
  have d0 := k1.cell 0
  simp only [List.getElem?_toArray, List.getElem?_cons_zero, List.getElem?_cons_succ] at c0 d0
  clear hb3 hb2
  replace hK3 := hide hK3
  go_wp2
  go_ret
  exact ⟨rfl, hb4⟩
end Go.Proofs.YtfhnamomiaekdaaGreatDoor

namespace Go.Proofs.YtfhnamomiaekdaaGreatDoor
open Go.RowKit Go.Inq
set_option maxHeartbeats 4000000
attribute [local go_sem ↓] Go.wp_at_zero Go.wp_at_succ

theorem sizeU12 : (Tryz.prog.info? 172).map (·.size) = some 1 := by kernel_rfl
set_option maxRecDepth 100000 in
theorem add12_any (n : Nat) (A : Option Addr) (c : Nat) (E : Edges) (a b : Nat) (ha : a < n) (hb : b < n) (K : Nat → Prop) (w : World) (h : GrS w K n A c E) (hK : ∀ b, K b → b < w.heap.size) :
    Calls Tryz.prog 167 #[.agg #[.int .i64 n, .slice A n c], .int .i64 a, .int .i64 b] w (OutG w n (orE E (oneE a b))) := by
  have hB : Below w.heap.size w ((w.alloc (.cells #[.int .i64 n, .slice A n c] 77)).alloc (.cells #[.int .i64 0, .slice none 0 0] 77)) := hB_box.alloc (by simp) _
  have k0 : Blk ((w.alloc (.cells #[.int .i64 n, .slice A n c] 77)).alloc (.cells #[.int .i64 0, .slice none 0 0] 77)) w.heap.size 77 #[.int .i64 n, .slice A n c] := (Blk.new _ _ _).alloc _
  have k1 : Blk ((w.alloc (.cells #[.int .i64 n, .slice A n c] 77)).alloc (.cells #[.int .i64 0, .slice none 0 0] 77)) (w.heap.size + 1) 77 #[.int .i64 0, .slice none 0 0] := by
    have := Blk.new (w.alloc (.cells #[.int .i64 n, .slice A n c] 77)) 77 #[.int .i64 0, .slice none 0 0]
    simpa using this
  have hg := hide (h.keep (Agree.below hB hK) (fun b hb => hb))
  have hK2 : ∀ b, K b → b < ((w.alloc (.cells #[.int .i64 n, .slice A n c] 77)).alloc (.cells #[.int .i64 0, .slice none 0 0] 77)).heap.size := fun b hb => by have := hK b hb; simp; omega
  have hn := h.n64
  have ha1 : decide ((a : Int) < 0) = false := by simp
  have hb1 : decide ((b : Int) < 0) = false := by simp
  have ha2 : decide ((n : Int) ≤ (a : Int)) = false := by simp; omega
  have hb2 : decide ((n : Int) ≤ (b : Int)) = false := by simp; omega
  have ha3 : decide (n ≤ a) = false := by simp; omega
  have hb3 : decide (n ≤ b) = false := by simp; omega
  clear h
  replace hK := hide hK
  go_enter Tryz.func167, Tryz.ntmps167
  go_wp2_with fail
  refine (right12_any n _ c E K _ hg.out hK2).mono ?_
  rintro e w1 ⟨rfl, hbb1⟩
  have hg1 := hide (hg.out.keep (Agree.below hbb1 hK2) (fun b hb => hb))
  have hK3 := hide (show ∀ b, K b → b < w1.heap.size from fun b hb => Nat.lt_of_lt_of_le (hK2 b hb) hbb1.size)
  have hs1 : w.heap.size + 2 ≤ w1.heap.size := by have := hbb1.size; simpa using this
  replace k0 := k0.below hbb1 k0.lt
  replace k1 := k1.below hbb1 k1.lt
  have hbb2 := hB.trans (hbb1.mono hB.size)
  clear hg hbb1 hB hK2
  have c0 := k0.cell 0
  have c1 := k0.cell 1
  simp only [List.getElem?_toArray, List.getElem?_cons_zero, List.getElem?_cons_succ] at c0 c1
  go_wp2_with fail
  refine (new12_any n hn _).mono ?_
  rintro e w2 ⟨g, hgs, rfl, kR, hbb3⟩
  clear c0 c1
  have hg2 := hide (hg1.out.keep (Agree.below hbb3 hK3.out) (fun b hb => hb))
  have k0' := k0.below hbb3 k0.lt
  have k1' := k1.below hbb3 k1.lt
  have hbb4 := hbb2.trans (hbb3.mono hbb2.size)
  have hs2 : w1.heap.size ≤ w2.heap.size := hbb3.size
  have hgl := kR.lt
  clear hbb3 hbb2 k0 k1 hg1
  have k2 : Blk (w2.alloc (.cells #[.int .i64 n, .slice (some ⟨g, 0, none⟩) n n] 77)) w2.heap.size 77 #[.int .i64 n, .slice (some ⟨g, 0, none⟩) n n] := Blk.new _ _ _
  have m0 := k0'.alloc (.cells #[.int .i64 n, .slice (some ⟨g, 0, none⟩) n n] 77)
  have m1 := k1'.alloc (.cells #[.int .i64 n, .slice (some ⟨g, 0, none⟩) n n] 77)
  have mR := kR.alloc (.cells #[.int .i64 n, .slice (some ⟨g, 0, none⟩) n n] 77)
  have hK4 := hide (show ∀ b, K b → b < w2.heap.size from fun b hb => Nat.lt_of_lt_of_le (hK3.out b hb) hs2)
  have hg3 := hide (hg2.out.keep (Agree.alloc hK4.out (.cells #[.int .i64 n, .slice (some ⟨g, 0, none⟩) n n] 77)) (fun b hb => hb))
  have hbb5 := hbb4.alloc (by omega) (.cells #[.int .i64 n, .slice (some ⟨g, 0, none⟩) n n] 77)
  have hs3 : (w2.alloc (.cells #[.int .i64 n, .slice (some ⟨g, 0, none⟩) n n] 77)).heap.size = w2.heap.size + 1 := by simp
  have c1 := m0.cell 1
  simp only [List.getElem?_toArray, List.getElem?_cons_zero, List.getElem?_cons_succ] at c1
  clear hbb4 kR k0' k1' hg2
  have hsrc := hide (fun i (hi : i < (rowsG n E).length) => (U64S.at_ hg3.out.sl hi))
  have hcur : (rowsB n noE).size = n := by simp [rowsB, rowsG_length]
  replace hcur := hide hcur
  go_wp2_with (refine wpList_copy_whole (fun x : Nat => Value.int .u64 x) rfl (.tmp 41) (.tmp 43) 75 75 rfl 172 Tryz.underlying75 sizeU12 g n n c A rfl rfl (rowsB n noE) 172 mR hcur.out (rowsG n E) (rowsG_length n E) (fun i hi => by obtain ⟨b, off, hA, _, hc⟩ := hsrc.out i hi; exact ⟨b, off, hA, hc⟩) (fun x _ => rfl) ?_; intro w4 kR4 hg4)
  have kR5 : Blk w4 g 172 (rowsB n E) := kR4
  have k24 := k2.grown hg4 (by simp; omega)
  have k14 := m1.grown hg4 (by simp; omega)
  have hb4 := below_grown hbb5 hg4 hbb5.size (by intro k hk; injection hk with hk; omega)
  have hs4 := hg4.size
  rw [hs3] at hs4
  have d1 := k24.cell 1
  have d0 := k24.cell 0
  have j0 := k14.cell 0
  have j1 := k14.cell 1
  have jf := k14.frozen 0
  have jf1 := k14.frozen 1
  have e0 := kR5.cell a
  rw [rowsB_at ha] at e0
  simp only [List.getElem?_toArray, List.getElem?_cons_zero, List.getElem?_cons_succ] at d1 d0 j0 j1
  have f0 := kR5.frozen a
  have h64 := hide (setB_64 (p := E a) hn)
  have hi1 : (0 : Int) ≤ (a : Int) := Int.natCast_nonneg _
  have hi2 : (a : Int) < (n : Int) := by omega
  have hadd := hide (rowsB_add (E := E) ha hb hn)
  clear kR4 mR k2 m0 m1 hbb5 hg4 hg3 hsrc c1 hcur
  refine wp_region_still_tail 11 (by kernel_rfl) (by kernel_rfl) ?_
  simp only [List.take_succ_cons, List.take_zero, List.drop_succ_cons, List.drop_zero]
  repeat still_step
  still_call ((with10_any _ h64.out b _).mono fun _ _ h => ⟨h.1, h.2.symm⟩)
  repeat still_step
  refine wpStill_nil ?_
  change wpList _ _ _ _ _ w4.drew
  go_wp2
  have n1 : g ≠ w.heap.size + 1 := by omega
  have n2 : w.heap.size + 1 ≠ g := by omega
  have kF0 := (((kR5.set_ a (.int .u64 (withB (setB (E a) n) (b : Int) : Nat))).far (p := ⟨w.heap.size + 1, 0, none⟩) n1 (.int .i64 n)).far (p := ⟨w.heap.size + 1, 1, none⟩) n1 (.slice (some ⟨g, 0, none⟩) n n)).drew
  rw [hadd.out] at kF0
  have hF := ((((hb4.setCell (p := ⟨g, a, none⟩) (by simp; omega) (.int .u64 (withB (setB (E a) n) (b : Int) : Nat))).setCell (p := ⟨w.heap.size + 1, 0, none⟩) (by simp) (.int .i64 n)).setCell (p := ⟨w.heap.size + 1, 1, none⟩) (by simp) (.slice (some ⟨g, 0, none⟩) n n))).drew
  exact bodyPost_ret (v := .tuple #[.agg #[.int .i64 n, .slice (some ⟨g, 0, none⟩) n n], .int .i64 0]) (by simp [results, Tryz.results167, go_sem, j0, j1, n1, n2]) rfl ⟨g, by omega, rfl, kF0, hF⟩
end Go.Proofs.YtfhnamomiaekdaaGreatDoor

namespace Go.Inq
open Go
section
variable {P : Program} {ops : Array Oper} {Q : Exit → Act → World → Prop} {md : Region.Mode}

def tailsOf (i : Nat) (tss : List (List Nat)) : List (List Nat) :=
  tss.filterMap fun r => match r with
    | t :: r' => if t = i then some r' else none
    | [] => none

/-- The rows tss, walked as a tree. -/
def wpAlt (P : Program) (ops : Array Oper) (Q : Exit → Act → World → Prop) : Nat → List (List Nat) → Act → World → Prop
  | 0, _, a, w => Q .normal a w
  | n + 1, tss, a, w => ∀ i ∈ tss.filterMap List.head?, wpOp P ops Q i (wpAlt P ops Q n (tailsOf i tss)) a w

def tailsB (md : Region.Mode) (ops : Array Oper) (us : List Nat) : Nat → List (List Nat) → Array Bool → Bool
  | 0, _, listed => (Region.ready md ops listed).isEmpty
  | n + 1, tss, listed =>
    (match tss.filterMap List.head? with
      | t :: r => r.all (· == t) && us.contains t && (Region.ready md ops listed).contains t && Region.free md ops listed t && (match ops[t]? with | some o => calmOp o.op | none => false) &&
          tailsB md ops us n (tailsOf t tss) (listed.setIfInBounds t true)
      | [] => false) ||
    (!(Region.ready md ops listed).isEmpty && (Region.ready md ops listed).all fun i => (tss.filterMap List.head?).contains i && us.contains i && tailsB md ops us n (tailsOf i tss) (listed.setIfInBounds i true))

/-- Operations that look, or do nothing to the world. -/
def stillOp : Op → Bool
  | .move _ | .assign _ | .pick .. | .build .. | .indexAddr .. | .extract .. | .makeFunc .. | .nilCheck _ | .load .. => true
  | _ => false

theorem stillOp_spec {ρ : Operand → Value} {o : Oper} (h : stillOp o.op = true) {w w' : World} {n : Next} (hr : (execOp ρ o).run P w = .ok n w') : w' = w ∧ ∃ v, n = .value v := by
  by_cases hl : loadOp o.op = true
  · cases ho : o.op <;> rw [ho] at hl <;> simp [loadOp] at hl
    case load t x =>
      have e : execOp ρ o = (do Pure.pure (.value (← Instr.loadAt t (ρ x)))) := by unfold execOp; rw [ho]
      have hv := valueOp_spec (P := P) (ρ := ρ) (o := o) (by rw [ho]; rfl) hr
      rw [e] at hr
      exact ⟨(Stb.bind (Stb.loadAt _ _) (fun _ => (Clear.pure _).stb) P _ _ _ hr).1, hv⟩
  · have hw : worldless P o.op = true := by cases ho : o.op <;> rw [ho] at h hl <;> simp [stillOp, loadOp] at h hl <;> rfl
    have hv := valueOp_spec (P := P) (ρ := ρ) (o := o) (by cases ho : o.op <;> rw [ho] at h hl <;> simp [stillOp, loadOp] at h hl <;> rfl) hr
    refine ⟨?_, hv⟩
    have := (worldless_spec hw hr w).symm.trans hr
    injection this with _ e
    exact e.symm

theorem wpOp_still {t : Nat} {o : Oper} {a : Act} {w : World} {K : Act → World → Prop} (ho : ops[t]? = some o) (hc : stillOp o.op = true) (h : wpOp P ops Q t K a w) : wpOp P ops Q t (fun a' w' => w' = w ∧ K a' w') a w := by
  unfold wpOp at *
  rw [ho] at h ⊢
  dsimp only at *
  by_cases hw : Region.wanted o (yielded ops a.tmps) = true
  · rw [if_pos hw] at h ⊢
    refine h.imp (fun h => ?_) id
    unfold Oper.wp at *
    generalize hr : (execOp a.eval o).run P w = r at *
    cases r with
    | halt x w' => cases x <;> simp only [Oper.upon] at h ⊢ <;> exact h
    | ok n w' =>
      obtain ⟨he, v, rfl⟩ := stillOp_spec hc hr
      exact ⟨he, h⟩
  · rw [if_neg hw] at h ⊢
    exact ⟨rfl, h⟩

def classA (ops : Array Oper) (us : List Nat) (j : Nat) : Nat :=
  if us.contains j then (match ops[j]? with | some o => if allocOp o.op then 1 else if stillOp o.op then 0 else 2 | none => 0) else 0

theorem cls_of_op {us : List Nat} {t : Nat} (hf : us.contains t = true) {K : Act → World → Prop} {a : Act} {w : World} (h : wpOp P ops Q t K a w) :
    wpOp P ops Q t (fun a' w' => ((classA ops us t = 0 → w' = w) ∧ (classA ops us t = 1 → Ext w w')) ∧ K a' w') a w := by
  cases ho : ops[t]? with
  | none => unfold wpOp at *; rw [ho] at h ⊢; exact ⟨⟨fun _ => rfl, fun _ => Ext.refl _⟩, h⟩
  | some o =>
    have e : classA ops us t = if allocOp o.op then 1 else if stillOp o.op then 0 else 2 := by unfold classA; rw [if_pos hf, ho]
    rw [e]
    by_cases hal : allocOp o.op = true
    · rw [if_pos hal]
      exact wpOp_mono (fun a' w' h => ⟨⟨fun h0 => absurd h0 (by simp), fun _ => h.1⟩, h.2⟩) (wpOp_alloc ho hal h)
    · rw [if_neg hal]
      by_cases hst : stillOp o.op = true
      · rw [if_pos hst]
        exact wpOp_mono (fun a' w' h => ⟨⟨fun _ => h.1, fun h1 => absurd h1 (by simp)⟩, h.2⟩) (wpOp_still ho hst h)
      · rw [if_neg hst]
        exact wpOp_mono (fun a' w' h => ⟨⟨fun h0 => absurd h0 (by simp), fun h1 => absurd h1 (by simp)⟩, h⟩) h

theorem wpAnyP_alt {us : List Nat} (hQ : ∀ c a (d : Option Tmp) v w, Q (.panic c) (a.put d v) w → Q (.panic c) a w) (hs : Region.noSelect ops = true) : ∀ (n : Nat) (tss : List (List Nat)) (listed : Array Bool) (a : Act) (w : World), Closed md ops listed → tailsB md ops us n tss listed = true →
    wpAlt P ops Q n tss a w → wpAnyP P md ops Q (classA ops us) n listed a w
  | 0, _, _, _, _, _, hB, h => ⟨by simpa [tailsB] using hB, h⟩
  | n + 1, tss, listed, a, w, hcl, hB, h => by
    unfold tailsB at hB
    rw [Bool.or_eq_true] at hB
    unfold wpAlt at h
    rcases hB with hB | hB
    · split at hB
      · rename_i t r hheads
        simp only [Bool.and_eq_true] at hB
        obtain ⟨⟨⟨⟨⟨_, hu⟩, hr⟩, hfr⟩, hc⟩, hB⟩ := hB
        have hr' : t ∈ Region.ready md ops listed := by simpa using hr
        have h1 := h t (by rw [hheads]; simp)
        cases ho : ops[t]? with
        | none => rw [ho] at hc; cases hc
        | some o =>
          rw [ho] at hc
          obtain ⟨v, hy, hK⟩ := yields_of_calm ho hc h1
          exact wpAnyP_first (S := fun _ => True) ho (Region.noSelect_spec hs) (fun c a w => hQ c a _ _ w) (fun _ _ _ _ _ _ _ _ _ => trivial) _ listed a w hcl (Region.free_spec ho hfr) hr' hy trivial
            (wpAnyP_alt hQ hs n _ _ _ w (hcl.set_ hr') hB hK)
      · cases hB
    · simp only [Bool.and_eq_true, List.all_eq_true] at hB
      refine ⟨fun h0 => (by rw [h0] at hB; simp at hB), fun i hi => ?_⟩
      obtain ⟨⟨hh, hu⟩, hB2⟩ := hB.2 i hi
      have h1 := h i (by simpa using hh)
      exact wpOp_mono (fun a' w' h' => ⟨h'.1, wpAnyP_alt hQ hs n _ _ a' w' (hcl.set_ hi) hB2 h'.2⟩) (cls_of_op hu h1)

def earlyAB (P : Program) (md : Region.Mode) (ops : Array Oper) (us : List Nat) (tss : List (List Nat)) : List Nat → Array Bool → Bool
  | [], listed => tailsB md ops us us.length tss listed
  | i :: es, listed => (Region.ready md ops listed).contains i && Region.free md ops listed i && !us.contains i &&
      (match ops[i]? with
        | some o => valueOp o.op && (worldless P o.op || (us.all fun j => waitsT md ops ops.size j i || ((match ops[j]? with | some oj => stillOp oj.op && !allocOp oj.op | none => false) || (loadOp o.op && (match ops[j]? with | some oj => allocOp oj.op | none => false)))))
        | none => false) &&
      earlyAB P md ops us tss es (listed.setIfInBounds i true)

theorem class_still {us : List Nat} {j : Nat} (hfj : us.contains j = true) (h : (match ops[j]? with | some oj => stillOp oj.op && !allocOp oj.op | none => false) = true) : classA ops us j = 0 := by
  unfold classA
  rw [if_pos hfj]
  cases hoj : ops[j]? with
  | none => rfl
  | some oj =>
    rw [hoj] at h
    simp only [Bool.and_eq_true, Bool.not_eq_true'] at h
    simp [h.1, h.2]

theorem wpAnyP_earlyA {w : World} (hQ : ∀ c a (d : Option Tmp) v w, Q (.panic c) (a.put d v) w → Q (.panic c) a w) (hs : Region.noSelect ops = true) (us : List Nat) (tss : List (List Nat)) : ∀ (es : List Nat) (listed : Array Bool) (a : Act), Closed md ops listed →
    earlyAB P md ops us tss es listed = true → wpStill P ops w (fun a' => wpAlt P ops Q us.length tss a' w) (es.filterMap (ops[·]?)) a → wpAnyP P md ops Q (classA ops us) (es.length + us.length) listed a w
  | [], listed, a, hcl, hB, h => by
    simp only [List.length_nil, Nat.zero_add]
    exact wpAnyP_alt hQ hs us.length tss listed a w hcl hB h
  | i :: es, listed, a, hcl, hB, h => by
    simp only [earlyAB, Bool.and_eq_true] at hB
    obtain ⟨⟨⟨⟨hr, hf⟩, hnt⟩, hk⟩, hrest⟩ := hB
    have hr' : i ∈ Region.ready md ops listed := by simpa using hr
    cases ho : ops[i]? with
    | none => rw [ho] at hk; cases hk
    | some o =>
      rw [ho] at hk
      simp only [Bool.and_eq_true, Bool.or_eq_true] at hk
      rw [List.filterMap_cons_some ho] at h
      obtain ⟨v, hy, hy0, hyl, hK⟩ := yieldsIf_of_still (K := wpStill P ops w (fun a' => wpAlt P ops Q us.length tss a' w) (es.filterMap (ops[·]?))) hk.1 h
      have IH := wpAnyP_earlyA hQ hs us tss es (listed.setIfInBounds i true) _ (hcl.set_ hr') hrest hK
      rw [List.length_cons, show es.length + 1 + us.length = (es.length + us.length) + 1 by omega]
      rcases hk.2 with hl | hl
      · exact wpAnyP_first (S := fun _ => True) ho (Region.noSelect_spec hs) (fun c a w => hQ c a _ _ w) (fun _ _ _ _ _ _ _ _ _ => trivial) _ listed a w hcl (Region.free_spec ho hf) hr' (hy0 hl) trivial IH
      · by_cases hld : loadOp o.op = true
        · refine wpAnyP_first (S := fun u => Ext w u) ho (Region.noSelect_spec hs) (fun c a w => hQ c a _ _ w) (fun listed' j hcl' hj hun u u' hu hc => ?_) _ listed a w hcl (Region.free_spec ho hf) hr' (hyl hld) (Ext.refl _) IH
          cases hfj : us.contains j with
          | false =>
            have : classA ops us j = 0 := by unfold classA; rw [if_neg (by rw [hfj]; simp)]
            rw [hc.1 this]
            exact hu
          | true =>
            have hwj := List.all_eq_true.1 hl j (by simpa using hfj)
            simp only [Bool.or_eq_true, Bool.and_eq_true] at hwj
            rcases hwj with hwj | hwj | ⟨_, hwj⟩
            · rw [hcl'.ready hwj hj] at hun
              cases hun
            · rw [hc.1 (class_still hfj hwj)]
              exact hu
            · cases hoj : ops[j]? with
              | none => rw [hoj] at hwj; cases hwj
              | some oj =>
                rw [hoj] at hwj
                have : classA ops us j = 1 := by unfold classA; rw [if_pos hfj, hoj]; simp [hwj]
                exact hu.trans (hc.2 this)
        · refine wpAnyP_first (S := fun u => u = w) ho (Region.noSelect_spec hs) (fun c a w => hQ c a _ _ w) (fun listed' j hcl' hj hun u u' hu hc => ?_) _ listed a w hcl (Region.free_spec ho hf) hr' hy rfl IH
          cases hfj : us.contains j with
          | false =>
            have : classA ops us j = 0 := by unfold classA; rw [if_neg (by rw [hfj]; simp)]
            rw [hc.1 this]
            exact hu
          | true =>
            have hwj := List.all_eq_true.1 hl j (by simpa using hfj)
            simp only [Bool.or_eq_true, Bool.and_eq_true] at hwj
            rcases hwj with hwj | hwj | ⟨h2, _⟩
            · rw [hcl'.ready hwj hj] at hun
              cases hun
            · rw [hc.1 (class_still hfj hwj)]
              exact hu
            · exact absurd h2 hld

def planAB (P : Program) (ops : Array Oper) (es us : List Nat) (tss : List (List Nat)) : Bool :=
  Region.noSelect ops && (es.length + us.length == ops.size) && earlyAB P .any ops us tss es (Array.replicate ops.size false)

theorem wpStill_mono' {w : World} {K K' : Act → Prop} (hk : ∀ a, K a → K' a) (os : List Oper) (a : Act) (h : wpStill P ops w K os a) : wpStill P ops w K' os a := wpStill_mono hk os a h

/-- A REGION THAT DRAWS ITS ORDER, BY A PLAN WITH ALTERNATIVES. -/
theorem wp_region_alts {id : Nat} {a : Act} {w : World} {l : List Oper} (es us : List Nat) (tss : List (List Nat)) (hm : P.follows .mixedOrders = true) (hB : planAB P l.toArray es us tss = true)
    (hQ : ∀ c a (d : Option Tmp) v w, Q (.panic c) (a.put d v) w → Q (.panic c) a w)
    (h : wpStill P l.toArray w.drew (fun a' => wpAlt P l.toArray Q us.length tss a' w.drew) (es.filterMap (l[·]?)) a) : (Code.region id l.toArray true).wp P Q a w := by
  simp only [planAB, Bool.and_eq_true, beq_iff_eq] at hB
  obtain ⟨⟨hs, hn⟩, hE⟩ := hB
  refine wp_region_any hm (wpAny_of_P (cls := classA l.toArray us) _ _ _ _ ?_)
  rw [← hn]
  refine wpAnyP_earlyA (w := w.drew) hQ hs us tss es _ a (Closed.start _ _ _) (by rw [hn]; exact hE) ?_
  have e1 : (fun (i : Nat) => l.toArray[i]?) = fun (i : Nat) => l[i]? := by funext i; simp
  rw [e1]
  exact h

/-- One step of the tree. -/
theorem wpOp_list {i : Nat} {o : Oper} {K : Act → World → Prop} {a : Act} {w : World} (ho : ops[i]? = some o) (h : wpList P ops (Exit.then K Q) [o] a w) : wpOp P ops Q i K a w := by
  unfold wpOp
  rw [ho]
  unfold wpList at h
  dsimp only
  split at h
  · rename_i hw
    rw [if_pos hw]
    refine h.imp (fun h => ?_) id
    unfold Oper.wp at h ⊢
    generalize (execOp a.eval o).run P w = r at h ⊢
    cases r with
    | halt x w' => cases x <;> exact h
    | ok n w' => cases n <;> exact h
  · rename_i hw
    rw [if_neg hw]
    exact h

/-- One row is left. -/
theorem wpAlt_one : ∀ (ts : List Nat) (n : Nat) (a : Act) (w : World), ts.length = n → wpList P ops Q (ts.filterMap (ops[·]?)) a w → wpAlt P ops Q n [ts] a w
  | [], n, a, w, hn, h => by
    subst hn
    exact h
  | t :: ts, n, a, w, hn, h => by
    subst hn
    intro i hi
    have : i = t := by simpa using hi
    subst this
    have e : tailsOf i [i :: ts] = [ts] := by simp [tailsOf]
    rw [e]
    cases ho : ops[i]? with
    | none =>
      unfold wpOp
      rw [ho]
      rw [List.filterMap_cons_none ho] at h
      exact wpAlt_one ts _ a w rfl h
    | some o =>
      rw [List.filterMap_cons_some ho] at h
      unfold wpOp
      rw [ho]
      unfold wpList at h
      dsimp only
      split at h
      · rename_i hw
        rw [if_pos hw]
        exact h.imp (Oper.wp_mono fun a w => wpAlt_one ts _ a w rfl) id
      · rename_i hw
        rw [if_neg hw]
        exact wpAlt_one ts _ _ _ rfl h
end
end Go.Inq

namespace Go.Proofs.YtfhnamomiaekdaaGreatDoor
open Go.RowKit Go.Inq
set_option maxHeartbeats 4000000
attribute [local go_sem ↓] Go.wp_at_zero Go.wp_at_succ

/-- The edges of the first k nodes. -/
def partE (k : Nat) (E : Edges) : Edges := fun a b => decide (a < k) && E a b
theorem partE_zero (E : Edges) : partE 0 E = noE := by funext a b; simp [partE, noE]
theorem partE_all {n : Nat} {E : Edges} {a b : Nat} (ha : a < n) (_ : b < n) : partE n E a b = E a b := by simp [partE, ha]
theorem partE_step {n k : Nat} {E : Edges} {x : Nat} (hk : k < n) (hx : x = setB (E k) n) : (rowsB n (partE k E)).setIfInBounds k (.int .u64 (x : Nat)) = rowsB n (partE (k + 1) E) := by
  rw [rowsB_set hk hx]
  refine rowsB_congr fun a b ha hb => ?_
  by_cases e : a = k
  · subst e; simp [partE]
  · have : decide (a < k + 1) = decide (a < k) := by simp; omega
    simp [partE, e, this]
set_option maxRecDepth 100000 in
theorem union12_any (n : Nat) (A A' : Option Addr) (c c' : Nat) (E F : Edges) (K : Nat → Prop) (w : World) (h : GrS w K n A c E) (h' : GrS w K n A' c' F) (hK : ∀ b, K b → b < w.heap.size) :
    Calls Tryz.prog 163 #[.agg #[.int .i64 n, .slice A n c], .agg #[.int .i64 n, .slice A' n c']] w (OutG w n (orE E F)) := by
  obtain ⟨W0, hW0⟩ : ∃ W0, ((w.alloc (.cells #[.int .i64 n, .slice A n c] 77)).alloc (.cells #[.int .i64 n, .slice A' n c'] 77)).alloc (.cells #[.int .i64 0, .slice none 0 0] 77) = W0 := ⟨_, rfl⟩
  have hB : Below w.heap.size w W0 := by rw [← hW0]; exact (hB_box.alloc (by simp) _).alloc (by simp; omega) _
  have hs0 : W0.heap.size = w.heap.size + 3 := by rw [← hW0]; simp
  have k0 : Blk W0 w.heap.size 77 #[.int .i64 n, .slice A n c] := by rw [← hW0]; exact ((Blk.new _ _ _).alloc _).alloc _
  have k1 : Blk W0 (w.heap.size + 1) 77 #[.int .i64 n, .slice A' n c'] := by
    rw [← hW0]
    have := (Blk.new (w.alloc (.cells #[.int .i64 n, .slice A n c] 77)) 77 #[.int .i64 n, .slice A' n c']).alloc (.cells #[.int .i64 0, .slice none 0 0] 77)
    simpa using this
  have k2 : Blk W0 (w.heap.size + 1 + 1) 77 #[.int .i64 0, .slice none 0 0] := by
    rw [← hW0]
    have := Blk.new ((w.alloc (.cells #[.int .i64 n, .slice A n c] 77)).alloc (.cells #[.int .i64 n, .slice A' n c'] 77)) 77 #[.int .i64 0, .slice none 0 0]
    simpa using this
  have hg := hide (h.keep (Agree.below hB hK) (fun b hb => hb))
  have hg' := hide (h'.keep (Agree.below hB hK) (fun b hb => hb))
  have hn := h.n64
  replace hK := hide hK
  have hKW : Hid (∀ b, K b → b < W0.heap.size) := hide fun b hb => by have := hK.out b hb; omega
  clear h h'
  replace hs0 := hide hs0
  go_enter Tryz.func163, Tryz.ntmps163
  have c0 := k0.cell 0
  have c1 := k0.cell 1
  have e0 := k1.cell 0
  have e1 := k1.cell 1
  simp only [List.getElem?_toArray, List.getElem?_cons_zero, List.getElem?_cons_succ] at c0 c1 e0 e1
  go_wp2_with fail
  clear hW0 c0 c1 e0 e1
  refine (like12_any n A A' c c' E F K _ hg.out hg'.out hKW.out).mono ?_
  rintro e w1 ⟨rfl, hb1⟩
  have hs1 : w.heap.size + 3 ≤ w1.heap.size := by have := hb1.size; have := hs0.out; omega
  have hga := hide (hg.out.keep (Agree.below hb1 hKW.out) (fun b hb => hb))
  have hgb := hide (hg'.out.keep (Agree.below hb1 hKW.out) (fun b hb => hb))
  replace k0 := k0.below hb1 k0.lt
  replace k1 := k1.below hb1 k1.lt
  replace k2 := k2.below hb1 k2.lt
  have hb2 := hB.trans (hb1.mono hB.size)
  clear hg hg' hb1 hB hKW hs0
  have c0 := k0.cell 0
  simp only [List.getElem?_toArray, List.getElem?_cons_zero, List.getElem?_cons_succ] at c0
  go_wp2_with fail
  refine (new12_any n hn _).mono ?_
  rintro e w2 ⟨g, hgs, rfl, kR, hb3⟩
  have hK1 : ∀ b, K b → b < w1.heap.size := fun b hb => by have := hK.out b hb; omega
  replace hga := hide (hga.out.keep (Agree.below hb3 hK1) (fun b hb => hb))
  replace hgb := hide (hgb.out.keep (Agree.below hb3 hK1) (fun b hb => hb))
  replace k0 := k0.below hb3 k0.lt
  replace k1 := k1.below hb3 k1.lt
  replace k2 := k2.below hb3 k2.lt
  replace hb2 := hb2.trans (hb3.mono hb2.size)
  have hs2 : w1.heap.size ≤ w2.heap.size := hb3.size
  have hgl := kR.lt
  clear hb3 hK1 c0
  obtain ⟨W3, hW3⟩ : ∃ W3, w2.alloc (.cells #[.int .i64 n, .slice (some ⟨g, 0, none⟩) n n] 77) = W3 := ⟨_, rfl⟩
  have k3 := Blk.newEq hW3
  have hs3 := size_allocEq hW3
  replace k0 := k0.allocEq hW3
  replace k1 := k1.allocEq hW3
  replace k2 := k2.allocEq hW3
  replace kR := kR.allocEq hW3
  have hb5 := below_allocEq hb2 hW3 (by omega)
  have hKw : ∀ b, K b → b < w2.heap.size := fun b hb => by have := hK.out b hb; omega
  replace hga := hide (hga.out.keep (Agree.allocEq hW3 hKw) (fun b hb => hb))
  replace hgb := hide (hgb.out.keep (Agree.allocEq hW3 hKw) (fun b hb => hb))
  replace hs3 := hide hs3
  clear hb2 hKw
  have d1 := k3.cell 1
  simp only [List.getElem?_toArray, List.getElem?_cons_zero, List.getElem?_cons_succ] at d1
  go_wp2_with fail
  clear d1
  have hz := hide (partE_zero (orE E F))
  go_loopw [23] (fun s23 wr => ∃ k : Nat, k ≤ n ∧ s23 = .int .i64 k ∧ Blk wr g 172 (rowsB n (partE k (orE E F))) ∧ W3.grownBy wr (some g)) (fun s23 _ => n - (intOf s23).toNat)
  case atStart => exact ⟨0, Nat.zero_le _, by go_num, by rw [hz.out]; exact kR, World.grownBy.refl _ _⟩
  case round =>
    obtain ⟨k, hk, rfl, kRw, hgw⟩ := hrel
    have hi1 : (0 : Int) ≤ (k : Int) := Int.natCast_nonneg _
    have m0 := k0.grown hgw (by simp; omega)
    have m1 := k1.grown hgw (by simp; omega)
    have m3 := k3.grown hgw (by simp; omega)
    have hszw := hgw.size
    by_cases hlt : k < n
    · have hi2 : (k : Int) < (n : Int) := by omega
      have hKg : ∀ b, K b → b < g := fun b hb => by have := hK.out b hb; omega
      have hgL : g ≤ W3.heap.size := by have := hs3.out; omega
      obtain ⟨ab, ao, rfl, _, hca⟩ := (hga.out.keep (Agree.ofGrown hgw hKg hgL) (fun b hb => hb)).at_ hlt
      obtain ⟨bb, bo, rfl, _, hcb⟩ := (hgb.out.keep (Agree.ofGrown hgw hKg hgL) (fun b hb => hb)).at_ hlt
      have hstep := hide (partE_step (E := orE E F) hlt (setB_or (p := E k) (q := F k) (n := n)))
      have h64a := hide (setB_64 (p := E k) hn)
      have h64b := hide (setB_64 (p := F k) hn)
      have hj := hide (joinL_two (setB (E k) n) (setB (F k) n))
      have c1 := m0.cell 1
      have e1 := m1.cell 1
      have d1 := m3.cell 1
      simp only [List.getElem?_toArray, List.getElem?_cons_zero, List.getElem?_cons_succ] at c1 e1 d1
      have f0 := kRw.frozen k
      have r0 := kRw.cell k
      rw [rowsB_at hlt] at r0
      have hglw := kRw.lt
      generalize setB (E k) n = x at *
      generalize setB (F k) n = y at *
      have d1n := (m3.alloc (.cells #[.int .u64 (x : Nat), .int .u64 (y : Nat)] 172)).cell 1
      simp only [List.getElem?_toArray, List.getElem?_cons_zero, List.getElem?_cons_succ] at d1n
      clear k0 k1 k3 m0 m1 m3 hKg hgL hga hgb
      go_wp2_with fail
      refine wp_region_alts [0, 2, 3, 4, 5, 6, 7, 8, 9, 10, 11, 12] [1, 13, 14, 15, 16] [[1, 13, 14, 15, 16], [13, 1, 14, 15, 16], [13, 14, 1, 15, 16]] (by kernel_rfl) (by kernel_rfl) (fun _ _ d _ _ h => by cases d <;> exact h) ?_
      simp only [List.filterMap_cons, List.filterMap_nil, List.getElem?_cons_zero, List.getElem?_cons_succ]
      repeat still_step
      refine wpStill_nil ?_
      have kN := hide (U64S.of_blk (l := [x, y]) (K := fun _ => True) ((Blk.new wr 172 #[.int .u64 (x : Nat), .int .u64 (y : Nat)]).drew) trivial)
      have hxy := hide (show ∀ z ∈ [x, y], z < 18446744073709551616 from by intro z hz; simp at hz; rcases hz with rfl | rfl; exact h64a.out; exact h64b.out)
      clear h64a h64b
      intro i hi
      simp only [List.filterMap_cons, List.head?_cons, List.filterMap_nil, List.mem_cons, List.not_mem_nil, or_false, or_self] at hi
      obtain rfl | rfl : i = 1 ∨ i = 13 := by omega
      · refine wpOp_list rfl ?_
        simp only [tailsOf, List.filterMap_cons, List.filterMap_nil, if_true, if_false, reduceIte, Nat.reduceEqDiff, List.length_cons, List.length_nil, Nat.reduceAdd]
        go_wp2_with fail
        refine wpAlt_one _ _ _ _ rfl ?_
        simp only [List.filterMap_cons, List.filterMap_nil, List.getElem?_toArray, List.getElem?_cons_zero, List.getElem?_cons_succ]
        go_wp2_with fail
        refine (join10_any (some ⟨wr.heap.size, 0, none⟩) 2 2 [x, y] (fun _ => True) _ rfl kN.out hxy.out (by omega)).mono ?_
        rintro e w5 ⟨rfl, rfl⟩
        rw [hj.out]
        go_wp2_with fail
        go_wp2
        go_roundw
        case rel => exact ⟨k + 1, by omega, by go_num, by rw [← hstep.out]; exact (kRw.set_ k _).alloc _, grown_trans (grown_trans (grown_trans hgw (grown_set g k _)) (World.grownBy_alloc _ _ _)) grown_drew⟩
        case measure => simp [intOf]; omega
      · refine wpOp_list rfl ?_
        simp only [tailsOf, List.filterMap_cons, List.filterMap_nil, if_true, if_false, reduceIte, Nat.reduceEqDiff, List.length_cons, List.length_nil, Nat.reduceAdd]
        go_wp2_with fail
        intro i hi
        simp only [List.filterMap_cons, List.head?_cons, List.filterMap_nil, List.mem_cons, List.not_mem_nil, or_false, or_self] at hi
        obtain rfl | rfl : i = 1 ∨ i = 14 := by omega
        · refine wpOp_list rfl ?_
          simp only [tailsOf, List.filterMap_cons, List.filterMap_nil, if_true, if_false, reduceIte, Nat.reduceEqDiff, List.length_cons, List.length_nil, Nat.reduceAdd]
          go_wp2_with fail
          refine wpAlt_one _ _ _ _ rfl ?_
          simp only [List.filterMap_cons, List.filterMap_nil, List.getElem?_toArray, List.getElem?_cons_zero, List.getElem?_cons_succ]
          go_wp2_with fail
          refine (join10_any (some ⟨wr.heap.size, 0, none⟩) 2 2 [x, y] (fun _ => True) _ rfl kN.out hxy.out (by omega)).mono ?_
          rintro e w5 ⟨rfl, rfl⟩
          rw [hj.out]
          go_wp2_with fail
          go_wp2
          go_roundw
          case rel => exact ⟨k + 1, by omega, by go_num, by rw [← hstep.out]; exact (kRw.set_ k _).alloc _, grown_trans (grown_trans (grown_trans hgw (grown_set g k _)) (World.grownBy_alloc _ _ _)) grown_drew⟩
          case measure => simp [intOf]; omega
        · refine wpOp_list rfl ?_
          simp only [tailsOf, List.filterMap_cons, List.filterMap_nil, if_true, if_false, reduceIte, Nat.reduceEqDiff, List.length_cons, List.length_nil, Nat.reduceAdd]
          go_wp2_with fail
          refine (join10_any (some ⟨wr.heap.size, 0, none⟩) 2 2 [x, y] (fun _ => True) _ rfl kN.out hxy.out (by omega)).mono ?_
          rintro e w5 ⟨rfl, rfl⟩
          rw [hj.out]
          go_wp2_with fail
          refine wpAlt_one _ _ _ _ rfl ?_
          simp only [List.filterMap_cons, List.filterMap_nil, List.getElem?_toArray, List.getElem?_cons_zero, List.getElem?_cons_succ]
          go_wp2
          go_roundw
          case rel => exact ⟨k + 1, by omega, by go_num, by rw [← hstep.out]; exact (kRw.set_ k _).alloc _, grown_trans (grown_trans (grown_trans hgw (grown_set g k _)) (World.grownBy_alloc _ _ _)) grown_drew⟩
          case measure => simp [intOf]; omega
    · obtain rfl : k = n := by omega
      have hall := hide (rowsB_congr (n := k) (E := partE k (orE E F)) (F := orE E F) (fun a b ha hb => partE_all ha hb))
      have m2 := k2.grown hgw (by simp; omega)
      have m3 := k3.grown hgw (by simp; omega)
      have d0 := m3.cell 0
      have d1 := m3.cell 1
      have j0 := m2.cell 0
      have j1 := m2.cell 1
      simp only [List.getElem?_toArray, List.getElem?_cons_zero, List.getElem?_cons_succ] at d0 d1 j0 j1
      have jf := m2.frozen 0
      have jf1 := m2.frozen 1
      have hbF := below_grown hb5 hgw hb5.size (by intro k hk; injection hk with hk; omega)
      rw [hall.out] at kRw
      go_wp2
      have n1 : g ≠ w.heap.size + 1 + 1 := by omega
      have kF0 := ((kRw.far (p := ⟨w.heap.size + 1 + 1, 0, none⟩) n1 (.int .i64 k)).far (p := ⟨w.heap.size + 1 + 1, 1, none⟩) n1 (.slice (some ⟨g, 0, none⟩) k k))
      have hF := ((hbF.setCell (p := ⟨w.heap.size + 1 + 1, 0, none⟩) (by simp; omega) (.int .i64 k)).setCell (p := ⟨w.heap.size + 1 + 1, 1, none⟩) (by simp; omega) (.slice (some ⟨g, 0, none⟩) k k))
      exact bodyPost_ret (v := .tuple #[.agg #[.int .i64 k, .slice (some ⟨g, 0, none⟩) k k], .int .i64 0]) (by simp [results, Tryz.results163, go_sem, j0, j1]) rfl ⟨g, by omega, rfl, kF0, hF⟩
end Go.Proofs.YtfhnamomiaekdaaGreatDoor

namespace Go.Proofs.YtfhnamomiaekdaaGreatDoor
open Go.RowKit Go.Inq
set_option maxHeartbeats 4000000
attribute [local go_sem ↓] Go.wp_at_zero Go.wp_at_succ

def encP (p : Nat × Nat) : List Value := [.int .i64 (p.1 : Nat), .int .i64 (p.2 : Nat)]
theorem encP_one : ∀ (x : Nat × Nat), ∀ u ∈ encP x, u.oneCell' = true := by
  intro x u hu
  simp [encP] at hu
  rcases hu with rfl | rfl <;> rfl
/-- The edges that lead from the first k nodes. -/
def edgesTo (n : Nat) (E : Edges) (k : Nat) : List (Nat × Nat) := ((List.range k).map fun a => ((List.range n).filter (E a)).map fun b => (a, b)).flatten
theorem edgesTo_all (n : Nat) (E : Edges) : edgesTo n E n = edgesG n E := rfl
theorem edgesTo_step (n : Nat) (E : Edges) (k : Nat) : edgesTo n E (k + 1) = edgesTo n E k ++ ((List.range n).filter (E k)).map fun b => (k, b) := by
  unfold edgesTo
  rw [List.range_succ, List.map_append, List.flatten_append]; simp
theorem edgesTo_len (n : Nat) (E : Edges) : ∀ k, (edgesTo n E k).length ≤ k * n
  | 0 => by simp [edgesTo]
  | k + 1 => by
    have h := edgesTo_len n E k
    have h2 : ((List.range n).filter (E k)).length ≤ n := Nat.le_trans (List.length_filter_le _ _) (by simp)
    rw [edgesTo_step, List.length_append, List.length_map, Nat.add_mul]
    omega
theorem infoP12 : (Tryz.prog.info? 262).map (fun i => (i.zero, i.size, i.bytes)) = some (some (.agg #[.int .i64 0, .int .i64 0]), 2, 16) := by kernel_rfl
/-- A row of edges of the call's own. -/
def OwnP (w : World) (base : Nat) (v : Value) (l : List (Nat × Nat)) : Prop := w.ownsRow base 262 2 v l.length (l.map encP).flatten
def OutP (w : World) (l : List (Nat × Nat)) (e : Ending) (w' : World) : Prop := ∃ v, e = .returned v ∧ OwnP w' w.heap.size v l ∧ Below w.heap.size w w'
theorem OwnP.form {w : World} {base : Nat} {v : Value} {l : List (Nat × Nat)} (h : OwnP w base v l) : ∃ A c, v = .slice A l.length c := own_slice h
theorem OwnP.nil (w : World) (base : Nat) : OwnP w base (.slice none 0 0) [] := World.ownsRow_nil _ _ _ _
theorem OwnP.at_ {w : World} {base : Nat} {A : Option Addr} {m c : Nat} {l : List (Nat × Nat)} (h : OwnP w base (.slice A m c) l) {i : Nat} (hi : i < l.length) :
    ∃ b off, A = some ⟨b, off, none⟩ ∧ base ≤ b ∧ b < w.heap.size ∧ w.cell? ⟨b, off + i * 2, none⟩ = some (.int .i64 (l[i].1 : Nat)) ∧ w.cell? ⟨b, off + i * 2 + 1, none⟩ = some (.int .i64 (l[i].2 : Nat)) := by
  have hs : SlR 2 (Flat encP) w (fun b => base ≤ b ∧ b < w.heap.size) (.slice A m c) l := SlR.of_flat h rfl (fun _ => rfl) (fun g h1 h2 => ⟨h1, h2⟩)
  obtain ⟨b, off, cs, hA, hK, _, hR, hc⟩ := SlR.at_ hs hi
  unfold Flat at hR
  subst hR
  exact ⟨b, off, hA, hK.1, hK.2, hc 0 _ rfl, hc 1 _ rfl⟩
set_option maxRecDepth 100000 in
theorem edges12_any (n : Nat) (A : Option Addr) (c : Nat) (E : Edges) (K : Nat → Prop) (w : World) (h : GrS w K n A c E) (hK : ∀ b, K b → b < w.heap.size) (hT : TabB w) :
    Calls Tryz.prog 191 #[.agg #[.int .i64 n, .slice A n c]] w (OutP w (edgesG n E)) := by
  obtain ⟨ip, hip, hi1, hi2, hi3⟩ := info_parts infoP12
  obtain ⟨W0, hW0⟩ : ∃ W0, w.alloc (.cells #[.int .i64 n, .slice A n c] 77) = W0 := ⟨_, rfl⟩
  have hB := below_allocEq (Below.refl w.heap.size w) hW0 (Nat.le_refl _)
  have k0 := Blk.newEq hW0
  have hs0 := size_allocEq hW0
  have hg := hide (h.keep (Agree.below hB hK) (fun b hb => hb))
  have hKW : Hid (∀ b, K b → b < W0.heap.size) := hide fun b hb => by have := hK b hb; omega
  have hn := h.n64
  replace hK := hide hK
  replace h := hide h
  have c0 := k0.cell 0
  have c1 := k0.cell 1
  simp only [List.getElem?_toArray, List.getElem?_cons_zero, List.getElem?_cons_succ] at c0 c1
  replace hs0 := hide hs0
  go_enter Tryz.func191, Tryz.ntmps191
  go_wp2_with fail
  clear hW0 c0 c1
  refine (right12_any n A c E K _ hg.out hKW.out).mono ?_
  rintro e w1 ⟨rfl, hb1⟩
  replace hg := hide (hg.out.keep (Agree.below hb1 hKW.out) (fun b hb => hb))
  replace k0 := k0.below hb1 k0.lt
  have hbA := hB.trans (hb1.mono hB.size)
  have hz1 := hbA.size
  clear hb1 hB hKW hs0
  have c1 := k0.cell 1
  simp only [List.getElem?_toArray, List.getElem?_cons_zero, List.getElem?_cons_succ] at c1
  go_wp2_with fail
  clear c1
  go_loopw [3, 14] (fun s3 s14 wr => ∃ k : Nat, k ≤ n ∧ s14 = .int .i64 k ∧ OwnP wr w.heap.size s3 (edgesTo n E k) ∧ Below w.heap.size w wr) (fun _ s14 _ => n - (intOf s14).toNat)
  case atStart => exact ⟨0, Nat.zero_le _, by go_num, OwnP.nil _ _, hbA⟩
  case round =>
    obtain ⟨Wo, rfl⟩ : ∃ Wo, Wo = wr := ⟨_, rfl⟩
    obtain ⟨k, hk, rfl, hown, hb⟩ := hrel
    have hi1' : (0 : Int) ≤ (k : Int) := Int.natCast_nonneg _
    by_cases hlt : k < n
    · have hi2' : (k : Int) < (n : Int) := by omega
      obtain ⟨b, off, rfl, _, hc⟩ := (h.out.keep (Agree.below hb hK.out) (fun b h => h)).at_ hlt
      have hT2 := hT.below hb
      have h64 := hide (setB_64 (p := E k) hn)
      have hst := hide (edgesTo_step n E k)
      have hlm := hide (edgesTo_len n E k)
      have hkn := hide (show k * n ≤ 64 * 64 from Nat.mul_le_mul (by omega) hn)
      have hszr := hb.size
      go_wp2_with fail
      refine (list10_any _ h64.out _ hT2).mono ?_
      rintro e wl ⟨v, rfl, hl, hbl⟩
      rw [listB_setB hn] at hl
      have hLn : ((List.range n).filter (E k)).length ≤ n := Nat.le_trans (List.length_filter_le _ _) (by simp)
      generalize (List.range n).filter (E k) = L at *
      obtain ⟨Al, cl, hv⟩ := hl.form
      rw [intsN_len] at hv
      subst hv
      have hbl2 := hb.trans (hbl.mono hszr)
      have hszl := hbl.size
      have hLS := hide (hl.sl (K := fun b => Wo.heap.size ≤ b ∧ b < wl.heap.size) (fun g h1 h2 => ⟨h1, h2⟩))
      obtain ⟨As, cs, rfl⟩ := hown.form
      have hown2 : OwnP wl w.heap.size _ (edgesTo n E k) := own_below hown hbl (Nat.le_refl _)
      have hlt2 := hide (fun g (hg : (Value.slice As (edgesTo n E k).length cs).ownBlock = some g) => (hown.lt g hg).2)
      clear hl hbl hb hown hc hT2
      go_wp2_with fail
      go_loopw [3, 22] (fun s3 s22 wq => ∃ j : Nat, j ≤ L.length ∧ s22 = .int .i64 j ∧ OwnP wq w.heap.size s3 (edgesTo n E k ++ (L.take j).map fun b => (k, b)) ∧ Below w.heap.size w wq ∧ Agree (fun b => Wo.heap.size ≤ b ∧ b < wl.heap.size) wl wq ∧ wl.heap.size ≤ wq.heap.size ∧ Hid (∀ g, s3.ownBlock = some g → g < Wo.heap.size ∨ wl.heap.size ≤ g)) (fun _ s22 _ => L.length - (intOf s22).toNat)
      case atStart => exact ⟨0, Nat.zero_le _, by go_num, by simpa using hown2, hbl2, Agree.refl _ _, Nat.le_refl _, hide fun g hg => .inl (hlt2.out g hg)⟩
      case round =>
        clear hown2 hbl2 hlt2
        obtain ⟨j, hj, rfl, hown, hb, hag, hszq, hfar⟩ := hrel
        have hj1 : (0 : Int) ≤ (j : Int) := Int.natCast_nonneg _
        by_cases hjl : j < L.length
        · have hj2 : (j : Int) < (L.length : Int) := by omega
          obtain ⟨bl, ol, rfl, _, hcl⟩ := (hLS.out.keep hag (fun b h => h)).at_ (i := j) (by rw [intsN_len]; exact hjl)
          rw [intsN_at hjl] at hcl
          have htk := hide (take_snoc' hjl)
          have hsz2 := hb.size
          have hlen : ((edgesTo n E k ++ (L.take j).map fun b => (k, b))).length ≤ 5000 := by
            have h1 := hlm.out
            have h2 := hkn.out
            rw [List.length_append, List.length_map, List.length_take]
            omega
          obtain ⟨Av, cv, rfl⟩ := hown.form
          generalize hM : (edgesTo n E k ++ (L.take j).map fun b => (k, b)) = M at *
          have hM2 : Hid (edgesTo n E k ++ (L.take (j + 1)).map (fun b => (k, b)) = M ++ [(k, L[j])]) := hide (by rw [htk.out, List.map_append, ← List.append_assoc, hM]; rfl)
          generalize L[j] = y at *
          clear hM htk hlm hkn
          replace hown := hide hown
          go_wp2_with (at_builtin; refine wpList_push (enc := encP) rfl (.tmp 26) (.tmp 30) 259 rfl w.heap.size 262 ip _ 2 16 Tryz.underlying259 hip hi1 hi2 hi3 rfl (by decide) (.slice Av M.length cv) M rfl hown.out (fun _ => rfl) (k, y) _ rfl rfl encP_one (by simp [maxLen]; omega) (by omega) hsz2 w w.heap.size (Nat.le_refl _) hb ?_; intro v1 w5 hown1 hg1 hb1 hat1)
          have hag2 : Agree (fun b => Wo.heap.size ≤ b ∧ b < wl.heap.size) wl w5 := (hag.trans (Agree.alloc (fun b hb => by omega) _)).trans (Agree.grown hg1 fun b hb => ⟨by simp; omega, fun e => by have := hfar.out b e.symm; omega⟩)
          have hsz5 := hg1.size
          simp only [World.size_alloc] at hsz5
          go_wp2
          go_roundw
          case rel => exact ⟨j + 1, by omega, by go_num, by rw [hM2.out]; exact hown1, hb1, hag2, by omega, hide fun g hg => by
            rcases hat1 with e | e
            · rw [e] at hg; exact hfar.out g hg
            · rw [e] at hg; injection hg with hg; omega⟩
          case measure => simp [intOf]; omega
        · obtain rfl : j = L.length := by omega
          have hM : edgesTo n E k ++ (L.take L.length).map (fun b => (k, b)) = edgesTo n E (k + 1) := by rw [List.take_length, hst.out]
          rw [hM] at hown
          go_wp2
          go_roundw
          case rel => exact ⟨k + 1, by omega, by go_num, hown, hb⟩
          case measure => simp [intOf]; omega
    · obtain rfl : k = n := by omega
      go_wp2
      go_ret
      exact ⟨_, rfl, hown, hb⟩
end Go.Proofs.YtfhnamomiaekdaaGreatDoor

namespace Go.Proofs.YtfhnamomiaekdaaGreatDoor
open Go.RowKit Go.Inq
set_option maxHeartbeats 4000000
attribute [local go_sem ↓] Go.wp_at_zero Go.wp_at_succ

theorem turn_step (l : List (Nat × Nat)) (a b : Nat) : turnE (Go.Inq.ofL (l ++ [(a, b)])) = orE (turnE (Go.Inq.ofL l)) (oneE b a) := by
  rw [ofL_snoc]
  funext x y
  simp [turnE, orE, oneE, Bool.and_comm]
theorem turn_nil : turnE (Go.Inq.ofL []) = noE := by funext x y; simp [turnE, Go.Inq.ofL, noE]
theorem turn_all {n : Nat} {E : Edges} {a b : Nat} (ha : a < n) (hb : b < n) : turnE (Go.Inq.ofL (edgesG n E)) a b = turnE E a b := by
  unfold turnE Go.Inq.ofL
  rw [Bool.eq_iff_iff, List.contains_iff_mem, edgesG_mem]
  exact ⟨fun h => h.2.2, fun h => ⟨hb, ha, h⟩⟩
set_option maxRecDepth 100000 in
theorem turn12_any (n : Nat) (A : Option Addr) (c : Nat) (E : Edges) (K : Nat → Prop) (w : World) (h : GrS w K n A c E) (hK : ∀ b, K b → b < w.heap.size) (hT : TabB w) :
    Calls Tryz.prog 129 #[.agg #[.int .i64 n, .slice A n c]] w (OutG w n (turnE E)) := by
  obtain ⟨W0, hW0⟩ : ∃ W0, (w.alloc (.cells #[.int .i64 n, .slice A n c] 77)).alloc (.cells #[.int .i64 0, .slice none 0 0] 77) = W0 := ⟨_, rfl⟩
  have sW := size_two hW0
  have hB := below_two hW0
  have k0 := Blk.two1 hW0
  have k1 := Blk.two2 hW0
  have hg := hide (h.keep (Agree.below hB hK) (fun b hb => hb))
  have hKW : Hid (∀ b, K b → b < W0.heap.size) := hide fun b hb => by have := hK b hb; omega
  have hn := h.n64
  have hs0 : Hid (W0.heap.size = w.heap.size + 2) := hide (by omega)
  replace hK := hide hK
  clear h sW
  have c0 := k0.cell 0
  have c1 := k0.cell 1
  simp only [List.getElem?_toArray, List.getElem?_cons_zero, List.getElem?_cons_succ] at c0 c1
  go_enter Tryz.func129, Tryz.ntmps129
  go_wp2_with fail
  clear hW0 c0 c1
  refine (right12_any n A c E K _ hg.out hKW.out).mono ?_
  rintro e w1 ⟨rfl, hb1⟩
  have hs1 : w.heap.size + 2 ≤ w1.heap.size := by have := hb1.size; have := hs0.out; omega
  replace hg := hide (hg.out.keep (Agree.below hb1 hKW.out) (fun b hb => hb))
  replace k0 := k0.below hb1 k0.lt
  replace k1 := k1.below hb1 k1.lt
  have hb2 := hB.trans (hb1.mono hB.size)
  clear hb1 hB hKW hs0
  have c0 := k0.cell 0
  simp only [List.getElem?_toArray, List.getElem?_cons_zero, List.getElem?_cons_succ] at c0
  go_wp2_with fail
  refine (new12_any n hn _).mono ?_
  rintro e w2 ⟨g, hgs, rfl, kR, hb3⟩
  have hK1 : ∀ b, K b → b < w1.heap.size := fun b hb => by have := hK.out b hb; omega
  replace hg := hide (hg.out.keep (Agree.below hb3 hK1) (fun b hb => hb))
  replace k0 := k0.below hb3 k0.lt
  replace k1 := k1.below hb3 k1.lt
  replace hb2 := hb2.trans (hb3.mono hb2.size)
  have hs2 : w1.heap.size ≤ w2.heap.size := hb3.size
  have hgl := kR.lt
  clear hb3 hK1 c0
  obtain ⟨W3, hW3⟩ : ∃ W3, w2.alloc (.cells #[.int .i64 n, .slice (some ⟨g, 0, none⟩) n n] 77) = W3 := ⟨_, rfl⟩
  have k3 := Blk.newEq hW3
  have hs3 := size_allocEq hW3
  replace k0 := k0.allocEq hW3
  replace k1 := k1.allocEq hW3
  replace kR := kR.allocEq hW3
  have hb5 := below_allocEq hb2 hW3 (by omega)
  have hKw : ∀ b, K b → b < w2.heap.size := fun b hb => by have := hK.out b hb; omega
  replace hg := hide (hg.out.keep (Agree.allocEq hW3 hKw) (fun b hb => hb))
  have hKx : Hid (∀ b, K b → b < W3.heap.size) := hide fun b hb => by have := hK.out b hb; omega
  have hT3 := hT.below hb5
  replace hs3 := hide hs3
  clear hb2 hKw
  have c0 := k0.cell 0
  have c1 := k0.cell 1
  simp only [List.getElem?_toArray, List.getElem?_cons_zero, List.getElem?_cons_succ] at c0 c1
  go_wp2_with fail
  refine (edges12_any n A c E K _ hg.out hKx.out hT3).mono ?_
  rintro e w4 ⟨v, rfl, hM, hb4⟩
  have hMl : (edgesG n E).length ≤ 64 * 64 := Nat.le_trans (edgesTo_len n E n) (Nat.mul_le_mul hn hn)
  have hMm := hide (fun x (hx : x ∈ edgesG n E) => (edgesG_mem (a := x.1) (b := x.2)).1 hx)
  have hall := hide (rowsB_congr (n := n) (E := turnE (Go.Inq.ofL (edgesG n E))) (F := turnE E) (fun a b ha hb => turn_all ha hb))
  generalize edgesG n E = M at *
  replace k1 := k1.below hb4 k1.lt
  replace k3 := k3.below hb4 k3.lt
  replace kR := kR.below hb4 kR.lt
  have hgW : g < W3.heap.size := by have := hs3.out; omega
  have hg2 : w2.heap.size < W3.heap.size := by have := hs3.out; omega
  have hz4 := hb4.size
  have hb6 := hb5.trans (hb4.mono hb5.size)
  obtain ⟨Av, cv, rfl⟩ := hM.form
  replace hM := hide hM
  clear hb4 hb5 hT3 c0 c1 hKx hg hW3 k0
  go_wp2_with fail
  have hz := hide turn_nil
  go_loopw [21] (fun s21 wr => ∃ k : Nat, k ≤ M.length ∧ s21 = .int .i64 k ∧ Blk wr g 172 (rowsB n (turnE (Go.Inq.ofL (M.take k)))) ∧ w4.grownBy wr (some g)) (fun s21 _ => M.length - (intOf s21).toNat)
  case atStart => exact ⟨0, Nat.zero_le _, by go_num, by rw [List.take_zero, hz.out]; exact kR, World.grownBy.refl _ _⟩
  case round =>
    obtain ⟨k, hk, rfl, kRw, hgw⟩ := hrel
    have hi1 : (0 : Int) ≤ (k : Int) := Int.natCast_nonneg _
    have hszw := hgw.size
    have m3 := k3.grown hgw (by simp; omega)
    by_cases hlt : k < M.length
    · have hi2 : (k : Int) < (M.length : Int) := by omega
      obtain ⟨eb, eo, rfl, hE1, hE2, x0, x1⟩ := hM.out.at_ hlt
      replace x0 := hgw.cell x0 (by simp; omega)
      replace x1 := hgw.cell x1 (by simp; omega)
      have htk := hide (take_snoc' hlt)
      obtain ⟨ha, hb, _⟩ := hMm.out _ (List.getElem_mem hlt)
      generalize M[k] = p at *
      obtain ⟨a, b⟩ := p
      dsimp only at *
      have hstep := hide (rowsB_add (E := turnE (Go.Inq.ofL (M.take k))) hb ha hn)
      have hto := hide (turn_step (M.take k) a b)
      have h64 := hide (setB_64 (p := turnE (Go.Inq.ofL (M.take k)) b) hn)
      have m3a := m3.alloc (.cells #[.int .i64 a, .int .i64 b] 262)
      have kRa := kRw.alloc (.cells #[.int .i64 a, .int .i64 b] 262)
      have d1 := m3a.cell 1
      have r0 := kRa.cell b
      rw [rowsB_at hb] at r0
      have f0 := kRa.frozen b
      simp only [List.getElem?_toArray, List.getElem?_cons_zero, List.getElem?_cons_succ] at d1
      have hj1 : (0 : Int) ≤ (b : Int) := Int.natCast_nonneg _
      have hj2 : (b : Int) < (n : Int) := by omega
      have hglw := kRw.lt
      have hgb := grown_trans hgw (World.grownBy_alloc wr (.cells #[.int .i64 a, .int .i64 b] 262) (some g))
      have kE := Blk.new wr 262 #[.int .i64 a, .int .i64 b]
      have y0 := kE.cell 0
      have y1 := kE.cell 1
      simp only [List.getElem?_toArray, List.getElem?_cons_zero, List.getElem?_cons_succ] at y0 y1
      go_wp2_with fail
      generalize wr.alloc (.cells #[.int .i64 a, .int .i64 b] 262) = Wb at *
      refine wp_region_still_tail 14 (by kernel_rfl) (by kernel_rfl) ?_
      simp only [List.take_succ_cons, List.take_zero, List.drop_succ_cons, List.drop_zero]
      repeat still_step
      still_call ((with10_any _ h64.out a _).mono fun _ _ h => ⟨h.1, h.2.symm⟩)
      repeat still_step
      refine wpStill_nil ?_
      change wpList _ _ _ _ _ Wb.drew
      go_wp2
      go_roundw
      case rel => exact ⟨k + 1, by omega, by go_num, by rw [htk.out, hto.out, ← hstep.out]; exact kRa.set_ b _, grown_trans (grown_trans hgb (grown_set g b _)) grown_drew⟩
      case measure => simp [intOf]; omega
    · obtain rfl : k = M.length := by omega
      rw [List.take_length, hall.out] at kRw
      have m2 := k1.grown hgw (by simp; omega)
      have d0 := m3.cell 0
      have d1 := m3.cell 1
      have j0 := m2.cell 0
      have j1 := m2.cell 1
      simp only [List.getElem?_toArray, List.getElem?_cons_zero, List.getElem?_cons_succ] at d0 d1 j0 j1
      have jf := m2.frozen 0
      have jf1 := m2.frozen 1
      have hbF := below_grown hb6 hgw hb6.size (by intro k hk; injection hk with hk; omega)
      go_wp2
      have n1 : g ≠ w.heap.size + 1 := by omega
      have kF0 := ((kRw.far (p := ⟨w.heap.size + 1, 0, none⟩) n1 (.int .i64 n)).far (p := ⟨w.heap.size + 1, 1, none⟩) n1 (.slice (some ⟨g, 0, none⟩) n n))
      have hF := ((hbF.setCell (p := ⟨w.heap.size + 1, 0, none⟩) (by simp) (.int .i64 n)).setCell (p := ⟨w.heap.size + 1, 1, none⟩) (by simp) (.slice (some ⟨g, 0, none⟩) n n))
      exact bodyPost_ret (v := .tuple #[.agg #[.int .i64 n, .slice (some ⟨g, 0, none⟩) n n], .int .i64 0]) (by simp [results, Tryz.results129, go_sem, j0, j1]) rfl ⟨g, by omega, rfl, kF0, hF⟩
end Go.Proofs.YtfhnamomiaekdaaGreatDoor
