/-
  A row of the call's own that grows (or is stored into), told against the world where it began: all else stays, but for some blocks of variables.
-/
import Derived.Test.YtjomijnbnbideaaGreatDoorT04
import Derived.Test.YtjomijnbnbideaaGreatDoorT28
import Derived.Test.YtjomijnbnbideaaGreatDoorT08
import Derived.Test.YtjomijnbnbideaaGreatDoorT32
import Derived.Test.YtjomijnbnbideaaGreatDoorT12
import Derived.Test.YtjomijnbnbideaaGreatDoorT35
import Derived.Test.YtjomijnbnbideaaGreatDoorT02
import Derived.Test.YtjomijnbnbideaaGreatDoorT14
set_option linter.unusedVariables false
set_option linter.unusedSimpArgs false
namespace Go.Inq
open Go Go.RowKit

/-- From w to w' the row v became v'; all other blocks of w stay, but those of S. -/
structure GrowR (S : Nat → Prop) (w : World) (v : Value) (w' : World) (v' : Value) : Prop where
  os : w'.os = w.os
  tape : w'.tape = w.tape
  output : w'.output = w.output
  size : w.heap.size ≤ w'.heap.size
  block : ∀ k, k < w.heap.size → v.ownBlock ≠ some k → ¬ S k → w'.heap[k]? = w.heap[k]?
  own : ∀ g, v'.ownBlock = some g → v.ownBlock = some g ∨ w.heap.size ≤ g
def NoS : Nat → Prop := fun _ => False
theorem noS (b : Nat) : ¬ NoS b := id
section
variable {S : Nat → Prop} {w w1 w2 : World} {v v1 v2 : Value}
theorem GrowR.refl (S : Nat → Prop) (w : World) (v : Value) : GrowR S w v w v := ⟨rfl, rfl, rfl, Nat.le_refl _, fun _ _ _ _ => rfl, fun _ h => .inl h⟩
theorem GrowR.trans (h : GrowR S w v w1 v1) (h' : GrowR S w1 v1 w2 v2) : GrowR S w v w2 v2 :=
  ⟨h'.os.trans h.os, h'.tape.trans h.tape, h'.output.trans h.output, Nat.le_trans h.size h'.size, fun k hk hv hS => (h'.block k (Nat.lt_of_lt_of_le hk h.size) (fun e => by rcases h.own k e with e | e; exact hv e; omega) hS).trans (h.block k hk hv hS),
    fun g hg => by rcases h'.own g hg with e | e; exact h.own g e; exact .inr (Nat.le_trans h.size e)⟩
theorem GrowR.mono {S' : Nat → Prop} (h : GrowR S w v w1 v1) (hS : ∀ b, S b → S' b) : GrowR S' w v w1 v1 := ⟨h.os, h.tape, h.output, h.size, fun k hk hv hn => h.block k hk hv (fun g => hn (hS k g)), h.own⟩
theorem GrowR.call {B : Nat} (h : GrowR S w v w1 v1) (hb : Below B w1 w2) (hB : w1.heap.size ≤ B) : GrowR S w v w2 v1 :=
  h.trans ⟨hb.os, hb.tape, hb.output, hb.size, fun k hk _ _ => hb.block k (by omega), fun g hg => .inl hg⟩
theorem GrowR.alloc (h : GrowR S w v w1 v1) (o : Obj) : GrowR S w v (w1.alloc o) v1 := h.call ((Below.refl _ _).alloc (Nat.le_refl _) o) (Nat.le_refl _)
theorem GrowR.drew (h : GrowR S w v w1 v1) : GrowR S w v w1.drew v1 := ⟨h.os, h.tape, h.output, h.size, h.block, h.own⟩
theorem GrowR.drewN (h : GrowR S w v w1 v1) (n : Nat) : GrowR S w v (w1.drewN n) v1 := ⟨h.os, h.tape, h.output, h.size, h.block, h.own⟩
theorem GrowR.set_ (h : GrowR S w v w1 v1) {p : Addr} (hp : v1.ownBlock = some p.block ∨ w.heap.size ≤ p.block ∨ S p.block) (u : Value) : GrowR S w v (w1.setCell p u) v1 :=
  ⟨h.os, h.tape, h.output, by simpa using h.size, fun k hk hv hS => (Below.heap_setCell w1 p u k (fun e => by
    subst e
    rcases hp with e | e | e
    · rcases h.own _ e with e | e
      · exact hv e
      · omega
    · omega
    · exact hS e)).trans (h.block k hk hv hS), h.own⟩
theorem GrowR.row (h : GrowR S w v w1 v1) (hg : w1.grownBy w2 v1.ownBlock) (hv : ∀ g, v2.ownBlock = some g → v1.ownBlock = some g ∨ w1.heap.size ≤ g) : GrowR S w v w2 v2 :=
  h.trans ⟨hg.os, hg.tape, hg.output, hg.size, fun k hk hv _ => hg.block k hk (fun e => hv e.symm), hv⟩
theorem GrowR.agree {K : Nat → Prop} (h : GrowR S w v w1 v1) (hK : ∀ b, K b → b < w.heap.size ∧ v.ownBlock ≠ some b ∧ ¬ S b) : Agree K w w1 := fun b hb => h.block b (hK b hb).1 (hK b hb).2.1 (hK b hb).2.2
theorem GrowR.blk {g : Nat} {t : TypeId} {cs : Array Value} (h : GrowR S w v w1 v1) (hk : Blk w g t cs) (hv : v.ownBlock ≠ some g) (hS : ¬ S g) : Blk w1 g t cs := (h.block g hk.lt hv hS).trans hk
theorem GrowR.below {B : Nat} {w0 : World} (h : GrowR S w v w1 v1) (hb : Below B w0 w) (hB : B ≤ w.heap.size) (hv : ∀ g, v.ownBlock = some g → B ≤ g) (hS : ∀ g, S g → B ≤ g) : Below B w0 w1 :=
  hb.trans ⟨h.os, h.tape, h.output, h.size, fun k hk => h.block k (by omega) (fun e => by have := hv k e; omega) (fun e => by have := hS k e; omega)⟩
theorem GrowR.belowN {B : Nat} {w0 : World} (h : GrowR NoS w v w1 v1) (hb : Below B w0 w) (hB : B ≤ w.heap.size) (hv : ∀ g, v.ownBlock = some g → B ≤ g) : Below B w0 w1 := h.below hb hB hv (fun g hg => hg.elim)
/-- Another row than the one that grows. -/
theorem GrowR.other (h : GrowR S w v w1 v1) {u : Value} {base : Nat} {e : TypeId} {size n : Nat} {xs : List Value} (hu : w.ownsRow base e size u n xs) (hv : ∀ g, u.ownBlock = some g → v.ownBlock ≠ some g ∧ ¬ S g) : w1.ownsRow base e size u n xs := by
  refine ⟨hu.1, ?_⟩
  rcases hu.2 with h2 | ⟨g, cap, cur, h2, hg, hh, r⟩
  · exact .inl h2
  · refine .inr ⟨g, cap, cur, h2, hg, ?_, r⟩
    have hgl : g < w.heap.size := by
      rcases Nat.lt_or_ge g w.heap.size with h | h
      · exact h
      · rw [Array.getElem?_eq_none h] at hh; cases hh
    have := hv g (by rw [h2]; rfl)
    rw [h.block g hgl this.1 this.2]
    exact hh
end

/-- append(s, x), the element a block that was just made: the row has grown. -/
theorem wpList_pushG {P : Program} {W : World} {ops : Array Oper} {rest : List Oper} {o : Oper} {a : Act} {Q : Exit → Act → World → Prop} {α : Type} {enc : α → List Value}
    (hgd : o.guard = none) (s x : Operand) (t : TypeId) (ho : o.op = .call { callee := .builtin .append, args := #[s, x], argTypes := #[t, t] })
    (base : Nat) (e : TypeId) (i : TypeInfo) (z : Value) (size bytes : Nat) (ht : P.underlying t = some (.slice e)) (hi : P.info? e = some i) (hz : i.zero = some z)
    (hsize : i.size = size) (hby : i.bytes = bytes) (hzs : z.cells.size = size) (hsz : 0 < size)
    (v : Value) (l : List α) (hs : a.eval s = v) (hown : W.ownsRow base e size v l.length (l.map enc).flatten) (hen : ∀ x, (enc x).length = size)
    (x0 : α) (cs : Array Value) (hcs : cs.toList = enc x0) (hx : a.eval x = .slice (some ⟨W.heap.size, 0, none⟩) 1 1)
    (h1 : ∀ x, ∀ u ∈ enc x, u.oneCell' = true) (h63 : l.length + 1 ≤ maxLen) (hbytes : (l.length + 1) * bytes ≤ 140737488355328) (hbase : base ≤ W.heap.size)
    (h : ∀ v' w', w'.ownsRow base e size v' (l ++ [x0]).length ((l ++ [x0]).map enc).flatten → GrowR NoS W v w' v' → wpList P ops Q rest (a.put o.dst v') w') :
    wpList P ops Q (o :: rest) a (W.alloc (.cells cs e)) := by
  refine wpList_push (enc := enc) hgd s x t ho base e i z size bytes ht hi hz hsize hby hzs hsz v l hs hown hen x0 cs hcs hx h1 h63 hbytes hbase W base (Nat.le_refl _) (Below.refl _ _) ?_
  intro v' w' g1 g2 _ g4
  refine h v' w' g1 (((GrowR.refl NoS W v).alloc _).row g2 ?_)
  intro g hg
  rcases g4 with e | e
  · exact .inl (e ▸ hg)
  · rw [e] at hg
    injection hg with hg
    subst hg
    right
    simp
end Go.Inq

namespace Go.Proofs.YtjomijnbnbideaaGreatDoor
open Go.RowKit Go.Inq
set_option maxHeartbeats 8000000
attribute [local go_sem ↓] Go.wp_at_zero Go.wp_at_succ

set_option maxRecDepth 100000 in
theorem rwriters09_any (A : Option Addr) (c : Nat) (H : List Txn) (key : Int) (w : World) (h : TxnS w (Old w) (.slice A H.length c) H) (hr : rightH H = true) (hn : SmallH H) :
    Calls Tryz.prog 98 #[.agg #[.slice A H.length c], .int .i64 key] w (OutI w (intsN (wrsL H key))) := by
  obtain ⟨ii, hii, hi1, hi2, hi3⟩ := info_parts infoI10
  have h32 : H.length ≤ 32 := ((rightH_iff H).1 hr).1
  obtain ⟨W0, hW0⟩ : ∃ W0, w.alloc (.cells #[.slice A H.length c] 24) = W0 := ⟨_, rfl⟩
  have hB := below_allocEq (Below.refl w.heap.size w) hW0 (Nat.le_refl _)
  have k0 := Blk.newEq hW0
  have h0 := h.below hB
  have hrc := hide (right08_any A c H W0 h0 hn)
  rw [hr] at hrc
  have c0 := k0.cell 0
  simp only [List.getElem?_toArray, List.getElem?_cons_zero, List.getElem?_cons_succ] at c0
  go_enter Tryz.func98, Tryz.ntmps98
  go_wp2_with fail
  clear hW0 c0
  refine hrc.out.mono ?_
  rintro e w1 ⟨rfl, hb1⟩
  have hB1 := hB.trans (hb1.mono hB.size)
  replace k0 := k0.below hb1 k0.lt
  clear hrc h0 hb1 hB
  go_wp2_with fail
  go_loopw [5, 7] (fun s5 s7 wr => ∃ k : Nat, k ≤ H.length ∧ s7 = .int .i64 k ∧ OwnI wr (w.heap.size + 1) s5 (intsN (wrsTo H key k)) ∧ Below w.heap.size w wr ∧ Blk wr w.heap.size 24 #[.slice A H.length c]) (fun _ s7 _ => H.length - (intOf s7).toNat)
  case atStart => exact ⟨0, Nat.zero_le _, by go_num, OwnI.nil _ _, hB1, k0⟩
  case round =>
    clear k0 hB1
    obtain ⟨k, hk, rfl, hown, hb, k0⟩ := hrel
    have hk1 : (0 : Int) ≤ (k : Int) := Int.natCast_nonneg _
    have c0 := k0.cell 0
    simp only [List.getElem?_toArray, List.getElem?_cons_zero, List.getElem?_cons_succ] at c0
    by_cases hlt : k < H.length
    · have hk2 : (k : Int) < (H.length : Int) := by omega
      obtain ⟨b, off, Aw, cw, Ar, cr, rfl, _, d0, d1, d2, hws, _⟩ := TxnS.at_ (h.below hb) hlt
      have hwl : H[k].writes.length ≤ maxLen := by have := (hn.2 _ (List.getElem_mem hlt)).1; unfold maxLen; omega
      have hst := hide (wrsTo_step H key k)
      rw [txnAt_of hlt] at hst
      have hcnt : (wrsTo H key k).length ≤ k := Nat.le_trans (List.length_filter_le _ _) (by simp)
      have hsn := hide (intsN_snoc (wrsTo H key k) k)
      have hlq := hide (intsN_len (wrsTo H key k))
      have hcw := hide (writes08_any H[k].sess Aw cw H[k].writes (.slice Ar H[k].reads.length cr) key (Old wr) wr hws (fun b h => h) hwl)
      generalize H[k].writes = L at *
      generalize H[k].sess = sy at *
      generalize H[k].reads = Ry at *
      generalize L.contains key = cb at *
      obtain ⟨Av, cv, rfl⟩ := hown.form
      replace hown := hide hown
      clear hws
      go_wp2_with fail
      clear c0 d0 d1 d2
      refine hcw.out.mono ?_
      rintro e w3 ⟨rfl, hb2⟩
      have hb3 := hb.trans (hb2.mono hb.size)
      have k3 := k0.below hb2 k0.lt
      have hown3 := hide (own_below hown.out hb2 (Nat.le_refl _))
      have hsz2 := hb3.size
      clear hcw hown hb2
      cases cb with
      | true =>
        have hst2 : Hid (wrsTo H key (k + 1) = wrsTo H key k ++ [k]) := hide (by rw [hst.out]; rfl)
        clear hst
        generalize wrsTo H key k = L at *
        have hkL : (intsN L).length + 1 ≤ maxLen := by rw [hlq.out]; unfold maxLen; omega
        have hkb : ((intsN L).length + 1) * 8 ≤ 140737488355328 := by rw [hlq.out]; omega
        generalize intsN L = D at *
        go_wp2_with (at_builtin; go_loud (refine wpList_push (enc := Go.Inq.encI) rfl (.tmp 29) (.tmp 31) 27 rfl (w.heap.size + 1) 3 ii _ 1 8 Tryz.underlying27 hii hi1 hi2 hi3 rfl (by decide) (.slice Av D.length cv) D rfl hown3.out (fun _ => rfl) (k : Int) _ rfl rfl Go.Inq.encI_one hkL hkb k3.lt w w.heap.size (by omega) hb3 ?_); intro v1 w6 hown1 hg1 hb1 hat1)
        have k6 := (k3.alloc (.cells #[.int .i64 (k : Int)] 3)).grown hg1 (fun e => by have := (hown3.out.lt _ e.symm).1; omega)
        go_roundw
        case rel => exact ⟨k + 1, by omega, by go_num, by rw [hst2.out, hsn.out]; exact hown1, hb1, k6⟩
        case measure => simp [intOf]; omega
      | false =>
        have hst2 : Hid (wrsTo H key (k + 1) = wrsTo H key k) := hide (by rw [hst.out]; simp)
        clear hst
        go_wp2
        go_roundw
        case rel => exact ⟨k + 1, by omega, by go_num, by rw [hst2.out]; exact hown3.out, hb3, k3⟩
        case measure => simp [intOf]; omega
    · obtain rfl : k = H.length := by omega
      go_wp2
      go_ret
      exact ⟨_, rfl, own_base' hown (by omega), hb⟩

/-- The pairs of the keys below k. -/
def pairsR (H : List Txn) (k : Nat) : List Cho := ((List.range k).map fun (key : Nat) => pairsK (key : Int) (wrsL H (key : Int))).flatten
theorem pairsR_step (H : List Txn) (k : Nat) : pairsR H (k + 1) = pairsR H k ++ pairsK (k : Int) (wrsL H (k : Int)) := by
  unfold pairsR
  rw [List.range_succ, List.map_append, List.flatten_append]
  simp
theorem flat_filter {α β : Type} (p : α → Bool) (f : α → List β) : ∀ l : List α, (∀ x ∈ l, p x = false → f x = []) → ((l.filter p).map f).flatten = (l.map f).flatten
  | [], _ => rfl
  | x :: l, h => by
    have ih := flat_filter p f l fun y hy => h y (by simp [hy])
    cases hp : p x with
    | true => simp [hp, ih]
    | false => simp [hp, ih, h x (by simp) hp]
theorem pairsR_all {H : List Txn} (hr : rightH H = true) : pairsR H 16 = pairsL H := by
  have hb : ∀ t ∈ H, ∀ k ∈ t.writes, 0 ≤ k ∧ k < 16 := fun t ht k hk => by
    obtain ⟨i, hi, rfl⟩ := List.getElem_of_mem ht
    exact (((rightH_iff H).1 hr).2 i hi).wkey k hk
  unfold pairsR pairsL
  rw [keysL_16 hb, List.map_map]
  symm
  refine flat_filter _ _ _ fun k _ hk => ?_
  have : wrsL H (k : Int) = [] := by simpa using hk
  show pairsK (k : Int) (wrsL H (k : Int)) = []
  rw [this]
  rfl
theorem pairsR_len {H : List Txn} (h32 : H.length ≤ 32) : ∀ k, (pairsR H k).length ≤ k * 1024
  | 0 => by simp [pairsR]
  | k + 1 => by
    rw [pairsR_step, List.length_append]
    have h1 := pairsR_len h32 k
    have h2 := pairsK_len (k : Int) (wrsL H (k : Int))
    have h3 := wrsL_len H (k : Int)
    have h4 : (wrsL H (k : Int)).length * (wrsL H (k : Int)).length ≤ 32 * 32 := Nat.mul_le_mul (by omega) (by omega)
    omega
end Go.Proofs.YtjomijnbnbideaaGreatDoor

namespace Go.Proofs.YtjomijnbnbideaaGreatDoor
open Go.RowKit Go.Inq
set_option maxHeartbeats 8000000
attribute [local go_sem ↓] Go.wp_at_zero Go.wp_at_succ

theorem pairIn_step {L : List Nat} {key : Int} {i y : Nat} (hi : i < L.length) (hy : y < L.length) (hiy : i + 1 ≤ y) (P : List Cho) :
    P ++ (((L.drop (i + 1)).take (y + 1 - (i + 1))).map fun (b : Nat) => (⟨key, (L[i] : Nat), b⟩ : Cho)) = (P ++ (((L.drop (i + 1)).take (y - (i + 1))).map fun (b : Nat) => (⟨key, (L[i] : Nat), b⟩ : Cho))) ++ [⟨key, (L[i] : Nat), (L[y] : Nat)⟩] := by
  have hd : y - (i + 1) < (L.drop (i + 1)).length := by rw [List.length_drop]; omega
  rw [show y + 1 - (i + 1) = y - (i + 1) + 1 by omega, List.take_succ_eq_append_getElem hd, List.map_append, ← List.append_assoc]
  congr 1
  simp only [List.map_cons, List.map_nil, List.getElem_drop]
  congr 3
  congr 1
  congr 1
  omega
set_option maxRecDepth 100000 in
theorem rpairs09_any (A : Option Addr) (c : Nat) (H : List Txn) (w : World) (h : TxnS w (Old w) (.slice A H.length c) H) (hr : rightH H = true) (hn : SmallH H) :
    Calls Tryz.prog 38 #[.agg #[.slice A H.length c]] w (OutC w (pairsL H)) := by
  obtain ⟨ic, hic, hi1, hi2, hi3⟩ := info_parts infoC9
  have h32 : H.length ≤ 32 := ((rightH_iff H).1 hr).1
  have hall := hide (pairsR_all hr)
  have hlen := hide (pairsR_len h32)
  obtain ⟨W0, hW0⟩ : ∃ W0, w.alloc (.cells #[.slice A H.length c] 24) = W0 := ⟨_, rfl⟩
  have hB := below_allocEq (Below.refl w.heap.size w) hW0 (Nat.le_refl _)
  have k0 := Blk.newEq hW0
  go_enter Tryz.func38, Tryz.ntmps38
  go_wp2_with fail
  clear hW0
  go_loopw [3, 4] (fun s3 s4 wr => ∃ k : Nat, k ≤ 16 ∧ s4 = .int .i64 k ∧ OwnC wr (w.heap.size + 1) s3 (pairsR H k) ∧ Below w.heap.size w wr ∧ Blk wr w.heap.size 24 #[.slice A H.length c]) (fun _ s4 _ => 16 - (intOf s4).toNat)
  case atStart => exact ⟨0, Nat.zero_le _, by go_num, OwnC.nil _ _, hB, k0⟩
  case round =>
    clear k0 hB
    obtain ⟨k, hk, rfl, hown, hb, k0⟩ := hrel
    have hk1 : (0 : Int) ≤ (k : Int) := Int.natCast_nonneg _
    have c0 := k0.cell 0
    simp only [List.getElem?_toArray, List.getElem?_cons_zero, List.getElem?_cons_succ] at c0
    by_cases hlt : k < 16
    · have hk2 : (k : Int) < 16 := by omega
      have hst := hide (pairsR_step H k)
      have hlk := hlen.out k
      have hcw := hide (rwriters09_any A c H (k : Int) wr (h.below hb) hr hn)
      have hLn := wrsL_len H (k : Int)
      have hpa := hide (pairsI_all (k : Int) (wrsL H (k : Int)))
      have hpi := hide (fun i (hi : i < (wrsL H (k : Int)).length) => pairsI_step (k : Int) (wrsL H (k : Int)) hi)
      have hpl := hide (pairsI_len (k : Int) (wrsL H (k : Int)))
      generalize wrsL H (k : Int) = L at *
      obtain ⟨Av, cv, rfl⟩ := hown.form
      replace hr := hide hr
      generalize hq : pairsR H k = Q at *
      replace hq := hide hq
      go_wp2_with fail
      clear c0
      refine hcw.out.mono ?_
      rintro e wl ⟨vl, rfl, hLO, hbl⟩
      obtain ⟨Al, cl, hv⟩ := hLO.form
      rw [intsN_len] at hv
      subst hv
      have hLS := hLO.sl (K := fun b => wr.heap.size ≤ b ∧ b < wl.heap.size) (fun g h1 h2 => ⟨h1, h2⟩)
      have hb2 := hb.trans (hbl.mono hb.size)
      have k2 := k0.below hbl k0.lt
      have hown2 : OwnC wl (w.heap.size + 1) (.slice Av Q.length cv) Q := own_below hown hbl (Nat.le_refl _)
      have hlt2 := hide (fun g hg => hown.lt g hg)
      clear hcw hLO hbl hb hown k0
      go_wp2_with fail
      go_loopw [3, 6] (fun s3 s6 wq => ∃ i : Nat, i ≤ L.length ∧ s6 = .int .i64 i ∧ OwnC wq (w.heap.size + 1) s3 (Q ++ pairsI k L i) ∧ GrowR NoS wl (.slice Av Q.length cv) wq s3) (fun _ s6 _ => L.length - (intOf s6).toNat)
      case atStart => exact ⟨0, Nat.zero_le _, by go_num, by simpa [pairsI] using hown2, GrowR.refl _ _ _⟩
      case round =>
        clear hown2
        obtain ⟨Wo, rfl⟩ : ∃ Wo, Wo = wr := ⟨_, rfl⟩
        obtain ⟨i, hi, rfl, hown, hg⟩ := hrel
        have hi1' : (0 : Int) ≤ (i : Int) := Int.natCast_nonneg _
        by_cases hil : i < L.length
        · have hi2' : (i : Int) < (L.length : Int) := by omega
          have hpst := hide (hpi.out i hil)
          have hlen2 := hpl.out i
          have hlen3 : i * L.length ≤ 32 * 32 := Nat.mul_le_mul (by omega) (by omega)
          obtain ⟨Ar, cr, rfl⟩ := OwnC.form hown
          replace hown := hide hown
          go_wp2_with fail
          go_loopw [3, 7] (fun s3 s7 wq => ∃ y : Nat, i + 1 ≤ y ∧ y ≤ L.length ∧ s7 = .int .i64 y ∧ OwnC wq (w.heap.size + 1) s3 (Q ++ pairsI k L i ++ (((L.drop (i + 1)).take (y - (i + 1))).map fun (b : Nat) => (⟨k, (L[i] : Nat), b⟩ : Cho))) ∧ GrowR NoS wl (.slice Av Q.length cv) wq s3) (fun _ s7 _ => L.length - (intOf s7).toNat)
          case atStart => exact ⟨i + 1, Nat.le_refl _, hil, by go_num, by simpa using hown.out, hg⟩
          case round =>
            clear hown hg
            obtain ⟨Wp, rfl⟩ : ∃ Wp, Wp = wr := ⟨_, rfl⟩
            obtain ⟨y, hiy, hy, rfl, hown, hg⟩ := hrel
            have hy1' : (0 : Int) ≤ (y : Int) := Int.natCast_nonneg _
            by_cases hyl : y < L.length
            · have hy2' : (y : Int) < (L.length : Int) := by omega
              have hin := hide (pairIn_step (key := (k : Int)) hil hyl hiy (Q ++ pairsI k L i))
              have hLq := hLS.keep (K' := fun b => wr.heap.size ≤ b ∧ b < wl.heap.size) (hg.agree fun b hb => ⟨hb.2, fun e => by have := (hlt2.out b e).2; omega, noS b⟩) (fun b h => h)
              obtain ⟨bl, ol, rfl, -, z0⟩ := hLq.at_ (i := i) (by rw [intsN_len]; exact hil)
              have z1 := (hLq.cells (i := y) (by rw [intsN_len]; exact hyl)).2
              rw [intsN_at hil] at z0
              rw [intsN_at hyl] at z1
              have hDl : (Q ++ pairsI k L i ++ (((L.drop (i + 1)).take (y - (i + 1))).map fun (b : Nat) => (⟨k, (L[i] : Nat), b⟩ : Cho))).length ≤ 100000 := by
                simp only [List.length_append, List.length_map, List.length_take, List.length_drop]
                omega
              generalize Q ++ pairsI k L i ++ (((L.drop (i + 1)).take (y - (i + 1))).map fun (b : Nat) => (⟨k, (L[i] : Nat), b⟩ : Cho)) = D at *
              generalize L[i] = a at *
              generalize L[y] = b at *
              obtain ⟨Ad, cd, rfl⟩ := OwnC.form hown
              have hkD : D.length + 1 ≤ maxLen := by unfold maxLen; omega
              have hkb : (D.length + 1) * 24 ≤ 140737488355328 := by omega
              replace hown := hide hown
              have hsz2 : w.heap.size + 1 ≤ Wp.heap.size := by have := k2.lt; have := hg.size; omega
              go_wp2_with fail
              refine wp_region_plan [0, 1, 2, 3, 4, 5, 6, 7, 8, 9, 10] [11, 12, 13] (by kernel_rfl) (by kernel_rfl) (fun _ _ d _ _ h => by cases d <;> exact h) ?_
              simp only [List.filterMap_cons, List.filterMap_nil, List.getElem?_cons_zero, List.getElem?_cons_succ]
              repeat still_step
              refine wpStill_nil ?_
              have hown' := hide (show OwnC Wp.drew (w.heap.size + 1) (.slice Ad D.length cd) D from hown.out)
              have hg' := hg.drew
              have hsz3 : w.heap.size + 1 ≤ Wp.drew.heap.size := hsz2
              clear hg hsz2
              change wpList _ _ _ _ _ Wp.drew
              generalize Wp.drew = Wx at *
              refine wpList_plain rfl (fun K hK => ?_)
              go_simp
              refine hK _ _ ?_
              clear hK K
              refine wpList_pushG (enc := encC) rfl (.tmp 29) (.tmp 40) 61 rfl (w.heap.size + 1) 49 ic _ 3 24 Tryz.underlying61 hic hi1 hi2 hi3 rfl (by decide) (.slice Ad D.length cd) D rfl hown'.out (fun _ => rfl) (⟨(k : Int), (a : Int), (b : Int)⟩ : Cho) _ rfl rfl encC_one hkD hkb hsz3 ?_
              intro v1 w6 hown1 hg1
              go_wp2
              go_roundw
              case rel => exact ⟨y + 1, by omega, by omega, by go_num, by rw [hin.out]; exact hown1, hg'.trans hg1⟩
              case measure => simp [intOf]; omega
            · obtain rfl : y = L.length := by omega
              have hq2 : Q ++ pairsI k L i ++ (((L.drop (i + 1)).take (L.length - (i + 1))).map fun (b : Nat) => (⟨k, (L[i] : Nat), b⟩ : Cho)) = Q ++ pairsI k L (i + 1) := by
                rw [List.take_of_length_le (by simp), hpst.out, List.append_assoc]
              rw [hq2] at hown
              clear hq2
              go_wp2
              go_roundw
              case rel => exact ⟨i + 1, by omega, by go_num, hown, hg⟩
              case measure => simp [intOf]; omega
        · obtain rfl : i = L.length := by omega
          have hown4 := hide (show OwnC Wo (w.heap.size + 1) u3 (pairsR H (k + 1)) by rw [hst.out, ← hpa.out]; exact hown)
          have hbF := hide (hg.belowN hb2 hb2.size (fun g e => by have := (hlt2.out g e).1; omega))
          have k4 := hide (hg.blk k2 (fun e => by have := (hlt2.out _ e).1; omega) (noS _))
          clear hown hg
          go_wp2
          go_roundw
          case rel => exact ⟨k + 1, by omega, by go_num, hown4.out, hbF.out, k4.out⟩
          case measure => simp [intOf]; omega
    · obtain rfl : k = 16 := by omega
      rw [hall.out] at hown
      go_wp2
      go_ret
      exact ⟨_, rfl, own_base' hown (by omega), hb⟩
end Go.Proofs.YtjomijnbnbideaaGreatDoor

namespace Go.Proofs.YtjomijnbnbideaaGreatDoor
open Go.RowKit Go.Inq
set_option maxHeartbeats 4000000
attribute [local go_sem ↓] Go.wp_at_zero Go.wp_at_succ

set_option maxRecDepth 100000 in
theorem rmay28_any (A : Option Addr) (c : Nat) (H : List Txn) (level : Int) (w : World) (h : TxnS w (Old w) (.slice A H.length c) H) (hn : SmallH H) :
    Calls Tryz.prog 69 #[.agg #[.slice A H.length c], .int .i64 level] w fun e w' => e = .returned (.bool (mayB H level)) ∧ Below w.heap.size w w' := by
  obtain ⟨W0, hW0⟩ : ∃ W0, w.alloc (.cells #[.slice A H.length c] 24) = W0 := ⟨_, rfl⟩
  have hB := below_allocEq (Below.refl w.heap.size w) hW0 (Nat.le_refl _)
  have k0 := Blk.newEq hW0
  have hrc := hide (right08_any A c H W0 (h.below hB) hn)
  have c0 := k0.cell 0
  simp only [List.getElem?_toArray, List.getElem?_cons_zero] at c0
  unfold mayB
  generalize rightH H = r at *
  have hz : decide (level = 0) = (level == 0) := by rw [Bool.eq_iff_iff]; simp
  have ho : decide (level = 1) = (level == 1) := by rw [Bool.eq_iff_iff]; simp
  rw [hz, ho]
  obtain ⟨z, hz2⟩ : ∃ z, (level == 0) = z := ⟨_, rfl⟩
  obtain ⟨o, ho2⟩ : ∃ o, (level == 1) = o := ⟨_, rfl⟩
  rw [hz2, ho2]
  clear hz ho h
  go_enter Tryz.func69, Tryz.ntmps69
  go_wp2_with fail
  clear hW0
  refine Calls.mono hrc.out ?_
  rintro e w1 ⟨rfl, hb1⟩
  have hB1 := hB.trans (hb1.mono hB.size)
  clear hrc c0
  cases r with
  | false =>
    go_wp2
    go_ret
    exact ⟨rfl, hB1⟩
  | true =>
    cases z with
    | true =>
      go_wp2
      go_ret
      exact ⟨rfl, hB1⟩
    | false =>
      go_wp2
      go_ret
      exact ⟨ret_bool (by first | exact ho2 | (rw [← ho2]; simp) | simp [ho2]), hB1⟩
/-- The words of a region that makes one thing out of others and stores it in the variable that its operation la - 1 makes. -/
def RsG (ws : List (Value → World → Prop)) (la : Nat) (j : Nat) (vs : Nat → Value) (W : World) : Prop :=
  match ws[j]? with
  | some p => p (vs (if j = la then la - 1 else j)) W
  | none => True
def klG (la i : Nat) : List Nat := if i = la then [la - 1] else []
def StG (la i : Nat) (W W' : World) : Prop := if i = la then True else Below W.heap.size W W'
theorem rsg_cg {ws : List (Value → World → Prop)} {la : Nat} {dp : Nat → List Nat} (hd : la - 1 ∈ dp la) : ∀ j (vs vs' : Nat → Value) w, (∀ k, k = j ∨ k ∈ dp j → vs k = vs' k) → RsG ws la j vs w → RsG ws la j vs' w := by
  intro j vs vs' w hk h
  unfold RsG at h ⊢
  cases hw : ws[j]? with
  | none => trivial
  | some p =>
    rw [hw] at h
    dsimp only at h ⊢
    by_cases e : j = la
    · subst e
      rw [if_pos rfl] at h ⊢
      rw [← hk _ (.inr hd)]; exact h
    · rw [if_neg e] at h ⊢
      rw [← hk _ (.inl rfl)]; exact h
theorem rsg_keep {ws : List (Value → World → Prop)} {la : Nat} (hst : ∀ p ∈ ws, ∀ v (W W' : World), p v W → Below W.heap.size W W' → p v W') (hfree : ∀ j p, ws[j]? = some p → j ≠ la → j ≠ la - 1 → ∀ v (W W' : World), p v W → p v W') : ∀ i j (vs : Nat → Value) w w', j ≠ i → j ∉ klG la i → RsG ws la j vs w → StG la i w w' → RsG ws la j vs w' := by
  intro i j vs w w' hne hkl h hs
  unfold RsG at h ⊢
  cases hw : ws[j]? with
  | none => trivial
  | some p =>
    rw [hw] at h
    dsimp only at h ⊢
    by_cases e : i = la
    · subst e
      unfold klG at hkl
      rw [if_pos rfl, List.mem_singleton] at hkl
      exact hfree j p hw hne hkl _ _ _ h
    · unfold StG at hs
      rw [if_neg e] at hs
      exact hst p (List.mem_of_getElem? hw) _ _ _ h hs
/-- A variable for a fact, made behind W0: empty; set. -/
def WF0 (n₀ : Nat) (v : Value) (W : World) : Prop := ∃ g, n₀ ≤ g ∧ v = .pointer (some ⟨g, 0, none⟩) ∧ Blk W g 119 #[.int .i64 0, .int .i64 0, .int .i64 0, .int .i64 0, .int .i64 0, .int .i64 0, .slice none 0 0]
def WF1 (n₀ : Nat) (i0 i1 i2 i3 i4 : Int) (v : Value) (W : World) : Prop := ∃ g, n₀ ≤ g ∧ v = .pointer (some ⟨g, 0, none⟩) ∧ Blk W g 119 #[.int .i64 i0, .int .i64 i1, .int .i64 i2, .int .i64 i3, .int .i64 i4, .int .i64 0, .slice none 0 0]
def isV (x : Value) (v : Value) (_ : World) : Prop := v = x
/-- What plain tells, taken apart. -/
theorem plV_form (d : Cho) (P : Option (Option Nat)) : ∃ (i0 i1 i2 i3 i4 : Int) (bb : Bool), plV d P = .tuple #[.agg #[.int .i64 i0, .int .i64 i1, .int .i64 i2, .int .i64 i3, .int .i64 i4, .int .i64 0, .slice none 0 0], .bool bb] ∧
    ((bb = false ∧ P = none) ∨ (bb = true ∧ ∃ x, P = some x ∧ [Value.int .i64 i0, .int .i64 i1, .int .i64 i2, .int .i64 i3, .int .i64 i4, .int .i64 0, .slice none 0 0] = encX (d, x))) := by
  cases P with
  | none => exact ⟨0, 0, 0, 0, 0, false, rfl, .inl ⟨rfl, rfl⟩⟩
  | some x => exact ⟨d.key, d.a, d.b, (mkF d x).kind, (mkF d x).i, true, rfl, .inr ⟨rfl, x, rfl, rfl⟩⟩
theorem infoF22r : (Tryz.prog.info? 119).map (fun i => (i.zero, i.size, i.bytes)) = some (some (.agg #[.int .i64 0, .int .i64 0, .int .i64 0, .int .i64 0, .int .i64 0, .int .i64 0, .slice none 0 0]), 7, 72) := by kernel_rfl
/-- What the reference says. -/
def OwnXr (w : World) (base : Nat) (v : Value) (l : List (Cho × Option Nat)) : Prop := w.ownsRow base 119 7 v l.length (l.map encX).flatten
def TreeXr (w : World) (base : Nat) (v : Value) : Option (List Nat) → Prop
  | none => v = .slice none 0 0
  | some l => ∃ g vc, base ≤ g ∧ v = .slice (some ⟨g, 0, none⟩) 1 1 ∧ Blk w g 118 #[.int .i64 0, .int .i64 0, .int .i64 0, vc] ∧ OwnI w base vc (intsN l)
def ScrOutR (w : World) (o : Scr) (e : Ending) (w' : World) : Prop :=
  ∃ vo vt vf, e = .returned (.agg #[.int .i64 o.said, vo, vt, vf]) ∧ OwnI w' w.heap.size vo (intsN o.order) ∧ TreeXr w' w.heap.size vt o.tree ∧ OwnXr w' w.heap.size vf o.facts ∧ Below w.heap.size w w'
end Go.Proofs.YtjomijnbnbideaaGreatDoor

namespace Go.Proofs.YtjomijnbnbideaaGreatDoor
open Go.RowKit Go.Inq
set_option maxHeartbeats 4000000
attribute [local go_sem ↓] Go.wp_at_zero Go.wp_at_succ

set_option maxRecDepth 100000 in
theorem rstep28_bad (A : Option Addr) (c : Nat) (H : List Txn) (level : Int) (w : World) (h : TxnS w (Old w) (.slice A H.length c) H) (hn : SmallH H) (hmay : mayB H level = false) (hsc : scrH H level = ⟨3, [], none, []⟩) :
    Calls Tryz.prog 25 #[.agg #[.slice A H.length c], .int .i64 level] w (ScrOutR w (scrH H level)) := by
  rw [hsc]
  obtain ⟨W0, hW0⟩ : ∃ W0, (w.alloc (.cells #[.slice A H.length c] 24)).alloc (.cells #[.int .i64 0, .slice none 0 0, .slice none 0 0, .slice none 0 0] 44) = W0 := ⟨_, rfl⟩
  have hB := below_two hW0
  have k0 := Blk.two1 hW0
  have k1 := Blk.two2 hW0
  have hs0 := size_two hW0
  have hh := hide (fun W hb => h.below (w' := W) hb)
  have hmc := hide (rmay28_any A c H level W0 (h.below hB) hn)
  rw [hmay] at hmc
  have c0 := k0.cell 0
  simp only [List.getElem?_toArray, List.getElem?_cons_zero] at c0
  replace hs0 := hide hs0
  clear h
  go_enter Tryz.func25, Tryz.ntmps25
  go_wp2_with fail
  clear hW0
  refine Calls.mono hmc.out ?_
  rintro e w1 ⟨rfl, hb1⟩
  have hB1 := hB.trans (hb1.mono hB.size)
  replace k0 := k0.below hb1 k0.lt
  replace k1 := k1.below hb1 k1.lt
  have y0 := k1.cell 0
  have y1 := k1.cell 1
  have y2 := k1.cell 2
  have y3 := k1.cell 3
  have z0 := k1.frozen 0
  have z1 := k1.frozen 1
  have z2 := k1.frozen 2
  have z3 := k1.frozen 3
  have c0 := k0.cell 0
  simp only [List.getElem?_toArray, List.getElem?_cons_zero, List.getElem?_cons_succ] at c0 y0 y1 y2 y3
  clear hmc hb1 hB
  have kf : Blk _ (w.heap.size + 1) 44 #[.int .i64 3, .slice none 0 0, .slice none 0 0, .slice none 0 0] := (((k1.set_ 0 (.int .i64 3)).set_ 1 (.slice none 0 0)).set_ 2 (.slice none 0 0)).set_ 3 (.slice none 0 0)
  have hBf := hide ((((hB1.setCell (p := ⟨w.heap.size + 1, 0, none⟩) (by simp) (.int .i64 3)).setCell (p := ⟨w.heap.size + 1, 1, none⟩) (by simp) (.slice none 0 0)).setCell (p := ⟨w.heap.size + 1, 2, none⟩) (by simp) (.slice none 0 0)).setCell (p := ⟨w.heap.size + 1, 3, none⟩) (by simp) (.slice none 0 0))
  have r0 := hide (kf.cell 0)
  have r1 := hide (kf.cell 1)
  have r2 := hide (kf.cell 2)
  have r3 := hide (kf.cell 3)
  simp only [List.getElem?_toArray, List.getElem?_cons_zero, List.getElem?_cons_succ] at r0 r1 r2 r3
  clear kf
  go_wp2
  exact bodyPost_ret (v := .agg #[.int .i64 3, .slice none 0 0, .slice none 0 0, .slice none 0 0]) (by simp [results, Tryz.results25, go_sem, r0.out, r1.out, r2.out, r3.out]) rfl ⟨_, _, _, rfl, OwnI.nil _ _, rfl, World.ownsRow_nil _ _ _ _, hBf.out⟩
set_option maxRecDepth 100000 in
theorem rstep28_no (A : Option Addr) (c : Nat) (H : List Txn) (level : Int) (w : World) (h : TxnS w (Old w) (.slice A H.length c) H) (hn : SmallH H) (hmay : mayB H level = true) (hr : rightC H [] = true) (hne : findL H.length (fullE H level []) ≠ []) (hsc : scrH H level = ⟨2, [], some (findL H.length (fullE H level [])), []⟩) :
    Calls Tryz.prog 25 #[.agg #[.slice A H.length c], .int .i64 level] w (ScrOutR w (scrH H level)) := by
  rw [hsc]
  obtain ⟨W0, hW0⟩ : ∃ W0, (w.alloc (.cells #[.slice A H.length c] 24)).alloc (.cells #[.int .i64 0, .slice none 0 0, .slice none 0 0, .slice none 0 0] 44) = W0 := ⟨_, rfl⟩
  have hB := below_two hW0
  have k0 := Blk.two1 hW0
  have k1 := Blk.two2 hW0
  have hs0 := size_two hW0
  have hh := hide (fun W hb => h.below (w' := W) hb)
  have hmc := hide (rmay28_any A c H level W0 (h.below hB) hn)
  rw [hmay] at hmc
  have c0 := k0.cell 0
  simp only [List.getElem?_toArray, List.getElem?_cons_zero] at c0
  replace hs0 := hide hs0
  clear h
  go_enter Tryz.func25, Tryz.ntmps25
  go_wp2_with fail
  clear hW0
  refine Calls.mono hmc.out ?_
  rintro e w1 ⟨rfl, hb1⟩
  have hB1 := hB.trans (hb1.mono hB.size)
  replace k0 := k0.below hb1 k0.lt
  replace k1 := k1.below hb1 k1.lt
  have y0 := k1.cell 0
  have y1 := k1.cell 1
  have y2 := k1.cell 2
  have y3 := k1.cell 3
  have z0 := k1.frozen 0
  have z1 := k1.frozen 1
  have z2 := k1.frozen 2
  have z3 := k1.frozen 3
  have c0 := k0.cell 0
  simp only [List.getElem?_toArray, List.getElem?_cons_zero, List.getElem?_cons_succ] at c0 y0 y1 y2 y3
  clear hmc hb1 hB
  have h64 : H.length ≤ 64 := by have := ((rightH_iff H).1 (rightC_hist hr)).1; omega
  have hfu := hide (rfull18_any A c H level none 0 [] w1 (hh.out w1 hB1) (SlR.nil _ _ _ _ _ _) hr hn)
  replace hr := hide hr
  replace hn := hide hn
  obtain ⟨E, hE⟩ : ∃ E, fullE H level [] = E := ⟨_, rfl⟩
  rw [hE] at hfu
  clear y0 y1 y2 y3 z0 z1 z2 z3
  go_wp2_with fail
  refine Calls.mono hfu.out ?_
  rintro e w2 ⟨u, rfl, hR, hb2⟩
  obtain ⟨Ag, cg, rfl, hG⟩ := hR.gr h64 (K := Old w2) (fun g _ h => h)
  have hB2 := hB1.trans (hb2.mono hB1.size)
  replace k0 := k0.below hb2 k0.lt
  replace k1 := k1.below hb2 k1.lt
  have hwg : w.heap.size + 1 < w2.heap.size := k1.lt
  clear hfu hR hB1 hb2 c0
  obtain ⟨W3, hW3⟩ : ∃ W3, w2.alloc (.cells #[.int .i64 H.length, .slice Ag H.length cg] 124) = W3 := ⟨_, rfl⟩
  have k6 := Blk.newEq hW3
  have hg3 := k6.lt
  have hb3 := below_allocEq (Below.refl w2.heap.size w2) hW3 (Nat.le_refl _)
  have hB3 := hB2.trans (hb3.mono hB2.size)
  replace k0 := k0.below hb3 k0.lt
  replace k1 := k1.below hb3 k1.lt
  replace hG := hG.keep (w' := W3) (K' := Old W3) (Agree.below hb3 fun b h => h) (fun b h => Nat.lt_of_lt_of_le h hb3.size)
  dsimp only
  go_upto_region 5 with fail
  try rw [hW3]
  clear hW3 hb3 hB2
  generalize w2.heap.size = g6 at *
  have c0 := k6.cell 0
  have c1 := k6.cell 1
  simp only [List.getElem?_toArray, List.getElem?_cons_zero, List.getElem?_cons_succ] at c0 c1
  go_wp2_with fail
  refine (rfind15_any H.length Ag cg E (Old W3) W3 hG (fun b h => h)).mono ?_
  rintro e w4 ⟨v, rfl, ho, hb4⟩
  have hB4 := hB3.trans (hb4.mono hB3.size)
  replace k0 := k0.below hb4 k0.lt
  replace k1 := k1.below hb4 k1.lt
  replace k6 := k6.below hb4 k6.lt
  have hs4 := hB4.size
  have hs3 := hB3.size
  obtain ⟨Ao, co, rfl⟩ := OwnI.form ho
  rw [intsN_len] at ho ⊢
  clear c0 c1
  have y0 := k1.cell 0
  have y1 := k1.cell 1
  have y2 := k1.cell 2
  have y3 := k1.cell 3
  have z0 := k1.frozen 0
  have z1 := k1.frozen 1
  have z2 := k1.frozen 2
  have z3 := k1.frozen 3
  simp only [List.getElem?_toArray, List.getElem?_cons_zero, List.getElem?_cons_succ] at y0 y1 y2 y3
  rw [hE] at hne
  have hpos : 0 < (findL H.length E).length := List.length_pos_iff.2 hne
  have hlen : ((findL H.length E).length : Int) > 0 := by omega
  obtain ⟨l, hl⟩ : ∃ l, findL H.length (fullE H level []) = l := ⟨_, rfl⟩
  rw [← hE, hl] at ho hlen ⊢
  replace hl := hide hl
  obtain ⟨W5, hW5⟩ : ∃ W5, w4.alloc (.cells #[.int .i64 0, .int .i64 0, .int .i64 0, .slice Ao l.length co] 118) = W5 := ⟨_, rfl⟩
  have hb5 := below_allocEq (Below.refl w4.heap.size w4) hW5 (Nat.le_refl _)
  have hB5 := hB4.trans (hb5.mono hB4.size)
  have k9 := Blk.newEq hW5
  have k1' := k1.below hb5 k1.lt
  have ho5 := own_below ho hb5 (Nat.le_refl _)
  have h91 : w4.heap.size ≠ w.heap.size + 1 := by have := k1.lt; omega
  have kf : Blk _ (w.heap.size + 1) 44 #[.int .i64 2, .slice none 0 0, .slice (some ⟨w4.heap.size, 0, none⟩) 1 1, .slice none 0 0] := (((k1'.set_ 0 (.int .i64 2)).set_ 1 (.slice none 0 0)).set_ 2 (.slice (some ⟨w4.heap.size, 0, none⟩) 1 1)).set_ 3 (.slice none 0 0)
  have k9f := (((k9.far (p := ⟨w.heap.size + 1, 0, none⟩) h91 (.int .i64 2)).far (p := ⟨w.heap.size + 1, 1, none⟩) h91 (.slice none 0 0)).far (p := ⟨w.heap.size + 1, 2, none⟩) h91 (.slice (some ⟨w4.heap.size, 0, none⟩) 1 1)).far (p := ⟨w.heap.size + 1, 3, none⟩) h91 (.slice none 0 0)
  have hno : ∀ g, (Value.slice Ao l.length co).ownBlock = some g → g ≠ w.heap.size + 1 := fun g e => by have := (World.ownsRow.lt ho5 g e).1; omega
  have hof := (((World.ownsRow.kept ho5 (grown_set (w.heap.size + 1) 0 (.int .i64 2)) (.inr fun e => hno _ e rfl)).kept (grown_set (w.heap.size + 1) 1 (.slice none 0 0)) (.inr fun e => hno _ e rfl)).kept (grown_set (w.heap.size + 1) 2 (.slice (some ⟨w4.heap.size, 0, none⟩) 1 1)) (.inr fun e => hno _ e rfl)).kept (grown_set (w.heap.size + 1) 3 (.slice none 0 0)) (.inr fun e => hno _ e rfl)
  have hBf := hide ((((hB5.setCell (p := ⟨w.heap.size + 1, 0, none⟩) (by simp) (.int .i64 2)).setCell (p := ⟨w.heap.size + 1, 1, none⟩) (by simp) (.slice none 0 0)).setCell (p := ⟨w.heap.size + 1, 2, none⟩) (by simp) (.slice (some ⟨w4.heap.size, 0, none⟩) 1 1)).setCell (p := ⟨w.heap.size + 1, 3, none⟩) (by simp) (.slice none 0 0))
  have r0 := hide (kf.cell 0)
  have r1 := hide (kf.cell 1)
  have r2 := hide (kf.cell 2)
  have r3 := hide (kf.cell 3)
  simp only [List.getElem?_toArray, List.getElem?_cons_zero, List.getElem?_cons_succ] at r0 r1 r2 r3
  replace k9f := hide k9f
  replace hof := hide hof
  replace hW5 := hide hW5
  clear kf ho5 k9 k1' hno h91 hne hpos hb5 hB5 ho hE
  dsimp only
  go_upto_region 7 with fail
  have k1a := k1.alloc (.cells #[.int .i64 0, .int .i64 0, .int .i64 0, .slice Ao l.length co] 118)
  have p0 := k1a.cell 0
  have p1 := k1a.cell 1
  have p2 := k1a.cell 2
  have p3 := k1a.cell 3
  have q0 := k1a.frozen 0
  have q1 := k1a.frozen 1
  have q2 := k1a.frozen 2
  have q3 := k1a.frozen 3
  simp only [List.getElem?_toArray, List.getElem?_cons_zero, List.getElem?_cons_succ] at p0 p1 p2 p3
  clear y0 y1 y2 y3 z0 z1 z2 z3 k1a
  repeat' (first | go_values | go_skip | go_guarded | go_step | go_upon)
  try simp only [Exit.inBlock, Exit.then]
  try rw [hW5.out]
  rw [hl.out]
  exact bodyPost_ret (v := .agg #[.int .i64 2, .slice none 0 0, .slice (some ⟨w4.heap.size, 0, none⟩) 1 1, .slice none 0 0]) (by simp [results, Tryz.results25, go_sem, r0.out, r1.out, r2.out, r3.out]) rfl ⟨_, _, _, rfl, OwnI.nil _ _, ⟨w4.heap.size, _, by omega, rfl, k9f.out, own_base hof.out (by omega)⟩, World.ownsRow_nil _ _ _ _, hBf.out⟩
end Go.Proofs.YtjomijnbnbideaaGreatDoor

namespace Go.Proofs.YtjomijnbnbideaaGreatDoor
open Go.RowKit Go.Inq
set_option maxHeartbeats 4000000
attribute [local go_sem ↓] Go.wp_at_zero Go.wp_at_succ

set_option maxRecDepth 100000 in
theorem rstep28_yes (A : Option Addr) (c : Nat) (H : List Txn) (level : Int) (w : World) (h : TxnS w (Old w) (.slice A H.length c) H) (hn : SmallH H) (hmay : mayB H level = true) (hr : rightC H [] = true) (hne : findL H.length (fullE H level []) = []) (hp : pairsL H = []) (O : List Nat) (hO : orderT H.length (fullE H level []) = some O) (hsc : scrH H level = ⟨1, O, none, []⟩) :
    Calls Tryz.prog 25 #[.agg #[.slice A H.length c], .int .i64 level] w (ScrOutR w (scrH H level)) := by
  rw [hsc]
  obtain ⟨W0, hW0⟩ : ∃ W0, (w.alloc (.cells #[.slice A H.length c] 24)).alloc (.cells #[.int .i64 0, .slice none 0 0, .slice none 0 0, .slice none 0 0] 44) = W0 := ⟨_, rfl⟩
  have hB := below_two hW0
  have k0 := Blk.two1 hW0
  have k1 := Blk.two2 hW0
  have hs0 := size_two hW0
  have hh := hide (fun W hb => h.below (w' := W) hb)
  have hmc := hide (rmay28_any A c H level W0 (h.below hB) hn)
  rw [hmay] at hmc
  have c0 := k0.cell 0
  simp only [List.getElem?_toArray, List.getElem?_cons_zero] at c0
  replace hs0 := hide hs0
  clear h
  go_enter Tryz.func25, Tryz.ntmps25
  go_wp2_with fail
  clear hW0
  refine Calls.mono hmc.out ?_
  rintro e w1 ⟨rfl, hb1⟩
  have hB1 := hB.trans (hb1.mono hB.size)
  replace k0 := k0.below hb1 k0.lt
  replace k1 := k1.below hb1 k1.lt
  have y0 := k1.cell 0
  have y1 := k1.cell 1
  have y2 := k1.cell 2
  have y3 := k1.cell 3
  have z0 := k1.frozen 0
  have z1 := k1.frozen 1
  have z2 := k1.frozen 2
  have z3 := k1.frozen 3
  have c0 := k0.cell 0
  simp only [List.getElem?_toArray, List.getElem?_cons_zero, List.getElem?_cons_succ] at c0 y0 y1 y2 y3
  clear hmc hb1 hB
  have h64 : H.length ≤ 64 := by have := ((rightH_iff H).1 (rightC_hist hr)).1; omega
  have hfu := hide (rfull18_any A c H level none 0 [] w1 (hh.out w1 hB1) (SlR.nil _ _ _ _ _ _) hr hn)
  replace hr := hide hr
  replace hn := hide hn
  obtain ⟨E, hE⟩ : ∃ E, fullE H level [] = E := ⟨_, rfl⟩
  rw [hE] at hfu
  clear y0 y1 y2 y3 z0 z1 z2 z3
  go_wp2_with fail
  refine Calls.mono hfu.out ?_
  rintro e w2 ⟨u, rfl, hR, hb2⟩
  obtain ⟨Ag, cg, rfl, hG⟩ := hR.gr h64 (K := Old w2) (fun g _ h => h)
  have hB2 := hB1.trans (hb2.mono hB1.size)
  replace k0 := k0.below hb2 k0.lt
  replace k1 := k1.below hb2 k1.lt
  have hwg : w.heap.size + 1 < w2.heap.size := k1.lt
  clear hfu hR hB1 hb2 c0
  obtain ⟨W3, hW3⟩ : ∃ W3, w2.alloc (.cells #[.int .i64 H.length, .slice Ag H.length cg] 124) = W3 := ⟨_, rfl⟩
  have k6 := Blk.newEq hW3
  have hg3 := k6.lt
  have hb3 := below_allocEq (Below.refl w2.heap.size w2) hW3 (Nat.le_refl _)
  have hB3 := hB2.trans (hb3.mono hB2.size)
  replace k0 := k0.below hb3 k0.lt
  replace k1 := k1.below hb3 k1.lt
  replace hG := hG.keep (w' := W3) (K' := Old W3) (Agree.below hb3 fun b h => h) (fun b h => Nat.lt_of_lt_of_le h hb3.size)
  dsimp only
  go_upto_region 5 with fail
  try rw [hW3]
  clear hW3 hb3 hB2
  generalize w2.heap.size = g6 at *
  have c0 := k6.cell 0
  have c1 := k6.cell 1
  simp only [List.getElem?_toArray, List.getElem?_cons_zero, List.getElem?_cons_succ] at c0 c1
  go_wp2_with fail
  refine (rfind15_any H.length Ag cg E (Old W3) W3 hG (fun b h => h)).mono ?_
  rintro e w4 ⟨v, rfl, ho, hb4⟩
  have hB4 := hB3.trans (hb4.mono hB3.size)
  replace k0 := k0.below hb4 k0.lt
  replace k1 := k1.below hb4 k1.lt
  replace k6 := k6.below hb4 k6.lt
  have hs4 := hB4.size
  have hs3 := hB3.size
  obtain ⟨Ao, co, rfl⟩ := OwnI.form ho
  rw [intsN_len] at ho ⊢
  clear c0 c1
  have y0 := k1.cell 0
  have y1 := k1.cell 1
  have y2 := k1.cell 2
  have y3 := k1.cell 3
  have z0 := k1.frozen 0
  have z1 := k1.frozen 1
  have z2 := k1.frozen 2
  have z3 := k1.frozen 3
  simp only [List.getElem?_toArray, List.getElem?_cons_zero, List.getElem?_cons_succ] at y0 y1 y2 y3
  have hl0 : (findL H.length E).length = 0 := by rw [← hE, hne]; rfl
  replace hE := hide hE
  rw [hl0]
  clear hl0
  replace hne := hide hne
  have hT4 := hide (hh.out w4 hB4)
  have hpr := hide (rpairs09_any A c H w4 hT4.out (rightC_hist hr.out) hn.out)
  have hG4 := hG.keep (w' := w4) (K' := Old w4) (Agree.below hb4 fun b h => h) (fun b h => Nat.lt_of_lt_of_le h hb4.size)
  have c0 := k0.cell 0
  simp only [List.getElem?_toArray, List.getElem?_cons_zero] at c0
  clear ho hG hb4
  dsimp only
  go_wp2_with fail
  refine Calls.mono hpr.out ?_
  rintro e w5 ⟨vp, rfl, hop, hb5⟩
  have hB5 := hB4.trans (hb5.mono hB4.size)
  replace k0 := k0.below hb5 k0.lt
  replace k1 := k1.below hb5 k1.lt
  replace k6 := k6.below hb5 k6.lt
  have hG5 := hG4.keep (w' := w5) (K' := Old w5) (Agree.below hb5 fun b h => h) (fun b h => Nat.lt_of_lt_of_le h hb5.size)
  obtain ⟨Ap, cp, rfl⟩ := hop.form
  clear hpr hb5 hG4 hT4 c0 y0 y1 y2 y3 z0 z1 z2 z3
  rw [hp]
  have c0 := k6.cell 0
  have c1 := k6.cell 1
  simp only [List.getElem?_toArray, List.getElem?_cons_zero, List.getElem?_cons_succ] at c0 c1
  have hor := rorder16_any H.length Ag cg E (Old w5) w5 hG5 (fun b h => h)
  rw [← hE.out, hO] at hor
  replace hor := hide hor
  clear hop
  dsimp only
  simp only [List.length_nil]
  go_wp2_with fail
  refine Calls.mono hor.out ?_
  rintro e w6 ⟨⟨vo, rfl, hov⟩, hb6⟩
  obtain ⟨Av, cv, rfl⟩ := OwnI.form hov
  have hB6 := hB5.trans (hb6.mono hB5.size)
  replace k1 := k1.below hb6 k1.lt
  have hs5 := hB5.size
  have hk5 : w.heap.size + 1 < w5.heap.size := by have := k6.lt; omega
  clear hor k0 k6 hG5 hB5 hb6 c0 c1
  have kf : Blk _ (w.heap.size + 1) 44 #[.int .i64 1, .slice Av (intsN O).length cv, .slice none 0 0, .slice none 0 0] := (((k1.set_ 0 (.int .i64 1)).set_ 1 (.slice Av (intsN O).length cv)).set_ 2 (.slice none 0 0)).set_ 3 (.slice none 0 0)
  have hno : ∀ g, (Value.slice Av (intsN O).length cv).ownBlock = some g → g ≠ w.heap.size + 1 := fun g e => by have := (World.ownsRow.lt hov g e).1; omega
  have hof := hide ((((World.ownsRow.kept hov (grown_set (w.heap.size + 1) 0 (.int .i64 1)) (.inr fun e => hno _ e rfl)).kept (grown_set (w.heap.size + 1) 1 (.slice Av (intsN O).length cv)) (.inr fun e => hno _ e rfl)).kept (grown_set (w.heap.size + 1) 2 (.slice none 0 0)) (.inr fun e => hno _ e rfl)).kept (grown_set (w.heap.size + 1) 3 (.slice none 0 0)) (.inr fun e => hno _ e rfl))
  have hBf := hide ((((hB6.setCell (p := ⟨w.heap.size + 1, 0, none⟩) (by simp) (.int .i64 1)).setCell (p := ⟨w.heap.size + 1, 1, none⟩) (by simp) (.slice Av (intsN O).length cv)).setCell (p := ⟨w.heap.size + 1, 2, none⟩) (by simp) (.slice none 0 0)).setCell (p := ⟨w.heap.size + 1, 3, none⟩) (by simp) (.slice none 0 0))
  have r0 := hide (kf.cell 0)
  have r1 := hide (kf.cell 1)
  have r2 := hide (kf.cell 2)
  have r3 := hide (kf.cell 3)
  simp only [List.getElem?_toArray, List.getElem?_cons_zero, List.getElem?_cons_succ] at r0 r1 r2 r3
  have p0 := k1.cell 0
  have p1 := k1.cell 1
  have p2 := k1.cell 2
  have p3 := k1.cell 3
  have q0 := k1.frozen 0
  have q1 := k1.frozen 1
  have q2 := k1.frozen 2
  have q3 := k1.frozen 3
  simp only [List.getElem?_toArray, List.getElem?_cons_zero, List.getElem?_cons_succ] at p0 p1 p2 p3
  clear kf hno hov hB6
  dsimp only
  go_upto_region 11 with fail
  repeat' (first | go_values | go_skip | go_guarded | go_step | go_upon)
  try simp only [Exit.inBlock, Exit.then]
  exact bodyPost_ret (v := .agg #[.int .i64 1, .slice Av (intsN O).length cv, .slice none 0 0, .slice none 0 0]) (by simp [results, Tryz.results25, go_sem, r0.out, r1.out, r2.out, r3.out]) rfl ⟨_, _, _, rfl, own_base hof.out (by omega), rfl, World.ownsRow_nil _ _ _ _, hBf.out⟩
end Go.Proofs.YtjomijnbnbideaaGreatDoor

namespace Go.Inq
open Go Go.RowKit

theorem IntS.take {w : World} {K : Nat → Prop} {A : Option Addr} {n c : Nat} {l : List Int} (h : IntS w K (.slice A n c) l) {k : Nat} (hk : k ≤ l.length) : IntS w K (.slice A k c) (l.take k) := SlR.take h hk
/-- One row of numbers, as an element. -/
def RowR (w : World) (K : Nat → Prop) (cs : List Value) (l : List Int) : Prop := ∃ v, cs = [v] ∧ IntS w K v l
theorem RowR.stab : Stab RowR := fun _ _ _ _ _ _ h ha hk => by
  obtain ⟨v, h1, h2⟩ := h
  exact ⟨v, h1, h2.keep ha hk⟩
theorem RowR.one {w : World} {K : Nat → Prop} {cs : List Value} {l : List Int} (h : RowR w K cs l) : ∀ u ∈ cs, u.oneCell' = true := by
  obtain ⟨v, rfl, h2⟩ := h
  obtain ⟨A, c, rfl⟩ := h2.form
  intro u hu
  simp at hu
  subst hu
  rfl
def RowsS (w : World) (K : Nat → Prop) (v : Value) (l : List (List Int)) : Prop := SlR 1 RowR w K v l
section
variable {w w' : World} {K K' : Nat → Prop} {v : Value} {l : List (List Int)}
theorem RowsS.keep (h : RowsS w K v l) (ha : Agree K w w') (hk : ∀ b, K b → K' b) : RowsS w' K' v l := SlR.keep RowR.stab h ha hk
theorem RowsS.below (h : RowsS w (Old w) v l) (hb : Below w.heap.size w w') : RowsS w' (Old w') v l := SlR.below RowR.stab h hb
theorem RowsS.fit (h : RowsS w K v l) (hk : ∀ b, K b → K' b) : RowsS w K' v l := SlR.fit RowR.stab h hk
theorem RowsS.form (h : RowsS w K v l) : ∃ A c, v = .slice A l.length c := by
  obtain ⟨A, c, hv, _⟩ := SlR.len h
  exact ⟨A, c, hv⟩
theorem RowsS.at_ {A : Option Addr} {n c : Nat} (h : RowsS w K (.slice A n c) l) {i : Nat} (hi : i < l.length) :
    ∃ b off A' c', A = some ⟨b, off, none⟩ ∧ K b ∧ w.cell? ⟨b, off + i, none⟩ = some (.slice A' l[i].length c') ∧ IntS w K (.slice A' l[i].length c') l[i] := by
  obtain ⟨b, off, cs, hA, hK, _, ⟨v, hcs, hv⟩, hc⟩ := SlR.at_ h hi
  obtain ⟨A', c', rfl⟩ := hv.form
  subst hcs
  have := hc 0 _ rfl
  rw [Nat.mul_one, Nat.add_zero] at this
  exact ⟨b, off, A', c', hA, hK, this, hv⟩
theorem RowsS.nil (w : World) (K : Nat → Prop) (A : Option Addr) (c : Nat) : RowsS w K (.slice A 0 c) [] := SlR.nil _ _ _ _ _ _
end
/-- A state, as a value. -/
def WdS (w : World) (K : Nat → Prop) (v : Value) (s : Wd) : Prop :=
  ∃ vp vl, v = .agg #[.int .i64 s.width, .bool s.cut, vp, vl] ∧ IntS w K vp s.path ∧ RowsS w K vl s.left
section
variable {w w' : World} {K K' : Nat → Prop} {v : Value} {s : Wd}
theorem WdS.keep (h : WdS w K v s) (ha : Agree K w w') (hk : ∀ b, K b → K' b) : WdS w' K' v s := by
  obtain ⟨vp, vl, h1, h2, h3⟩ := h
  exact ⟨vp, vl, h1, h2.keep ha hk, h3.keep ha hk⟩
theorem WdS.below (h : WdS w (Old w) v s) (hb : Below w.heap.size w w') : WdS w' (Old w') v s :=
  h.keep (Agree.below hb fun _ h => h) fun _ h => Nat.lt_of_lt_of_le h hb.size
theorem WdS.form (h : WdS w K v s) : ∃ Ap cp Al cl, v = .agg #[.int .i64 s.width, .bool s.cut, .slice Ap s.path.length cp, .slice Al s.left.length cl] ∧ IntS w K (.slice Ap s.path.length cp) s.path ∧ RowsS w K (.slice Al s.left.length cl) s.left := by
  obtain ⟨vp, vl, h1, h2, h3⟩ := h
  obtain ⟨Ap, cp, rfl⟩ := h2.form
  obtain ⟨Al, cl, rfl⟩ := h3.form
  exact ⟨Ap, cp, Al, cl, h1, h2, h3⟩
end
end Go.Inq

namespace Go.Proofs.YtjomijnbnbideaaGreatDoor
open Go.RowKit Go.Inq
set_option maxHeartbeats 2000000
attribute [local go_sem ↓] Go.wp_at_zero Go.wp_at_succ

theorem nil30 (w : World) (A : Option Addr) (n c : Nat) : (Go.binOp .eql 27 (.slice A n c) (.slice none 0 0)).run Tryz.prog w = .ok (.bool A.isNone) w := Lib.run_eql_slice_nil w 27 3 A n c 0 0 Tryz.underlying27
attribute [local go_sem] nil30
theorem indexF_any (f : Nat) (hf : ∀ args w, (callFunc f args).run Tryz.prog w = .ok (.enter f args) w) (lb : Array Value) (p : Int → Bool) (A : Option Addr) (c : Nat) (l : List Int) (K : Nat → Prop) (w : World) (h : IntS w K (.slice A l.length c) l) (hl : l.length ≤ 1000000000)
    (hp : ∀ x ∈ l, Calls Tryz.prog f (#[.int .i64 x] ++ lb) w fun e W' => e = .returned (.bool (p x)) ∧ w = W') :
    Calls Tryz.prog 213 #[.slice A l.length c, .func (.func f) #[] lb] w fun e w' => e = .returned (.int .i64 (idxP p l)) ∧ w = w' := by
  have hhit := hide (fun k => idxP_hit (p := p) (l := l) (k := k))
  have hnone := hide (idxP_none (p := p) (l := l))
  replace h := hide h
  replace hp := hide hp
  go_enter Tryz.func213, Tryz.ntmps213
  go_wp2_with fail
  go_loop [5, 8] (fun s5 s8 => ∃ k : Nat, k ≤ l.length ∧ s8 = .int .i64 k ∧ Hid (∀ j (hj : j < l.length), j < k → p l[j] = false)) (fun _ s8 => l.length - (intOf s8).toNat)
  case atStart => exact ⟨0, Nat.zero_le _, by go_num, fun j hj h => absurd h (by omega)⟩
  case round =>
    obtain ⟨k, hk, rfl, hall⟩ := hrel
    have hk1 : (0 : Int) ≤ (k : Int) := Int.natCast_nonneg _
    by_cases hlt : k < l.length
    · have hi2 : (k : Int) < (l.length : Int) := by omega
      obtain ⟨b, off, rfl, _, d0⟩ := h.out.at_ hlt
      have hcall := hide (hp.out _ (List.getElem_mem hlt))
      have hh := hide (fun g => hhit.out k hlt g hall.out)
      have hst : Hid (p l[k] = false → ∀ j (hj : j < l.length), j < k + 1 → p l[j] = false) := fun g j hj hjk => by
        by_cases e : j = k
        · subst e; exact g
        · exact hall.out j hj (by omega)
      clear hall
      generalize l[k] = x at *
      go_wp2_with fail
      refine hcall.out.mono ?_
      rintro e W2 ⟨rfl, rfl⟩
      cases hpx : p x with
      | true =>
        have hr := hide (hh.out hpx)
        clear hpx hh hst hcall
        go_wp2
        go_ret
        exact ⟨ret_int hr.out.symm, rfl⟩
      | false =>
        have hr := hide (hst.out hpx)
        clear hpx hh hst hcall
        go_wp2
        go_round
        case rel => exact ⟨k + 1, by omega, by go_num, hr⟩
        case measure => simp [intOf]; omega
    · have hr := hide (hnone.out fun j hj => hall.out j hj (by omega))
      go_wp2
      go_ret
      exact ⟨ret_int hr.out.symm, rfl⟩
theorem containsF_any (f : Nat) (hf : ∀ args w, (callFunc f args).run Tryz.prog w = .ok (.enter f args) w) (lb : Array Value) (p : Int → Bool) (A : Option Addr) (c : Nat) (l : List Int) (K : Nat → Prop) (w : World) (h : IntS w K (.slice A l.length c) l) (hl : l.length ≤ 1000000000)
    (hp : ∀ x ∈ l, Calls Tryz.prog f (#[.int .i64 x] ++ lb) w fun e W' => e = .returned (.bool (p x)) ∧ w = W') :
    Calls Tryz.prog 171 #[.slice A l.length c, .func (.func f) #[] lb] w fun e w' => e = .returned (.bool (l.any p)) ∧ w = w' := by
  have hd := hide (idxP_any p l)
  have hcall := hide (indexF_any f hf lb p A c l K w h hl hp)
  clear hp hf h
  go_enter Tryz.func171, Tryz.ntmps171
  go_wp2_with fail
  refine hcall.out.mono ?_
  rintro e w1 ⟨rfl, rfl⟩
  clear hcall
  go_wp2
  go_ret
  exact ⟨by rw [← hd.out]; rfl, rfl⟩
/-- Not a fresh number. -/
def badN (n : Nat) (path : List Int) (t : Int) : Bool := decide (t < 0) || decide ((n : Int) ≤ t) || path.contains t
theorem freshW_eq (n : Nat) (l path : List Int) : freshW n l path = !(l.any (badN n path)) := by
  rw [Bool.eq_iff_iff]
  unfold freshW badN
  simp only [List.all_eq_true, Bool.not_eq_true', List.any_eq_false, Bool.or_eq_true, Bool.and_eq_true, decide_eq_true_eq, not_or]
  refine forall_congr' fun t => imp_congr_right fun _ => ?_
  constructor
  · rintro ⟨⟨h1, h2⟩, h3⟩; exact ⟨⟨by omega, by omega⟩, by rw [h3]; simp⟩
  · rintro ⟨⟨h1, h2⟩, h3⟩; exact ⟨⟨by omega, by omega⟩, by simpa using h3⟩
theorem bad30_any (n : Nat) (Ap : Option Addr) (cp : Nat) (path : List Int) (t : Int) (Bn Bp : Nat) (K : Nat → Prop) (w : World) (h : IntS w K (.slice Ap path.length cp) path) (hl : path.length ≤ 1000000000) (hBn : w.cell? ⟨Bn, 0, none⟩ = some (.int .i64 n)) (hBp : w.cell? ⟨Bp, 0, none⟩ = some (.slice Ap path.length cp)) :
    Calls Tryz.prog 172 #[.int .i64 t, .pointer (some ⟨Bn, 0, none⟩), .pointer (some ⟨Bp, 0, none⟩)] w fun e w' => e = .returned (.bool (badN n path t)) ∧ w = w' := by
  by_cases h0 : t < 0
  · have hr : badN n path t = true := by unfold badN; simp [h0]
    have h0b : decide (t < 0) = true := by simpa using h0
    rw [hr]
    clear h0 hr h
    go_enter Tryz.func172, Tryz.ntmps172
    go_wp2
    go_ret
    exact ⟨rfl, rfl⟩
  · have h0b : decide (t < 0) = false := by simpa using h0
    by_cases h1 : (n : Int) ≤ t
    · have hr : badN n path t = true := by unfold badN; simp [h1]
      have h1b : decide (t ≥ (n : Int)) = true := by simpa using h1
      rw [hr]
      clear h0 h1 hr h
      go_enter Tryz.func172, Tryz.ntmps172
      go_wp2
      go_ret
      exact ⟨rfl, rfl⟩
    · have hr : badN n path t = path.contains t := by unfold badN; simp [h0, h1]
      have h1b : decide (t ≥ (n : Int)) = false := by simpa using h1
      rw [hr]
      clear h0 h1 hr
      replace h := hide h
      go_enter Tryz.func172, Tryz.ntmps172
      go_wp2_with fail
      refine (contains_int Ap cp path t K _ h.out (by unfold maxLen; omega)).mono ?_
      rintro e w1 ⟨rfl, rfl⟩
      go_wp2
      go_ret
      exact ⟨by simp, rfl⟩
set_option maxRecDepth 100000 in
theorem fresh30_any (n : Nat) (A : Option Addr) (c : Nat) (l : List Int) (Ap : Option Addr) (cp : Nat) (path : List Int) (K : Nat → Prop) (w : World) (hK : ∀ b, K b → b < w.heap.size) (h : IntS w K (.slice A l.length c) l) (hl : l.length ≤ 1000000000) (hP : IntS w K (.slice Ap path.length cp) path) (hlp : path.length ≤ 1000000000) :
    Calls Tryz.prog 110 #[.int .i64 n, .slice A l.length c, .slice Ap path.length cp] w fun e w' => e = .returned (.bool (freshW n l path)) ∧ Below w.heap.size w w' := by
  have hq := hide (freshW_eq n l path)
  obtain ⟨W0, hW0⟩ : ∃ W0, (w.alloc (.cells #[.int .i64 n] 3)).alloc (.cells #[.slice Ap path.length cp] 27) = W0 := ⟨_, rfl⟩
  have hB := below_two hW0
  have k0 := Blk.two1 hW0
  have k1 := Blk.two2 hW0
  have hL := h.keep (Agree.below hB hK) (fun _ h => h)
  have hP2 := hP.keep (Agree.below hB hK) (fun _ h => h)
  have hcall := hide (containsF_any 172 (enters_of Tryz.func172 (by kernel_rfl) rfl) #[.pointer (some ⟨w.heap.size, 0, none⟩), .pointer (some ⟨w.heap.size + 1, 0, none⟩)] (badN n path) A c l K W0 hL hl (fun x _ =>
    bad30_any n Ap cp path x w.heap.size (w.heap.size + 1) K W0 hP2 hlp (by have := k0.cell 0; simpa using this) (by have := k1.cell 0; simpa using this)))
  clear h hP hL hP2 k0 k1
  go_enter Tryz.func110, Tryz.ntmps110
  go_wp2_with fail
  clear hW0
  refine hcall.out.mono ?_
  rintro e w3 ⟨rfl, rfl⟩
  clear hcall
  go_wp2
  go_ret
  exact ⟨by rw [hq.out]; rfl, hB⟩
theorem new30_any (w : World) : Calls Tryz.prog 16 #[] w fun e w' => e = .returned (.agg #[.int .i64 1, .bool false, .slice none 0 0, .slice none 0 0]) ∧ Below w.heap.size w w' := by
  obtain ⟨W0, hW0⟩ : ∃ W0, w.alloc (.cells #[.int .i64 0, .bool false, .slice none 0 0, .slice none 0 0] 30) = W0 := ⟨_, rfl⟩
  have hB := below_allocEq (Below.refl w.heap.size w) hW0 (Nat.le_refl _)
  have k0 := Blk.newEq hW0
  have f0 := k0.frozen 0
  have f1 := k0.frozen 1
  have f2 := k0.frozen 2
  have f3 := k0.frozen 3
  have kF := (((k0.set_ 0 (.int .i64 1)).set_ 1 (.bool false)).set_ 2 (.slice none 0 0)).set_ 3 (.slice none 0 0)
  have hF := (((hB.setCell (p := ⟨w.heap.size, 0, none⟩) (by simp) (.int .i64 1)).setCell (p := ⟨w.heap.size, 1, none⟩) (by simp) (.bool false)).setCell (p := ⟨w.heap.size, 2, none⟩) (by simp) (.slice none 0 0)).setCell (p := ⟨w.heap.size, 3, none⟩) (by simp) (.slice none 0 0)
  simp only [List.setIfInBounds_toArray, List.set_cons_zero, List.set_cons_succ] at kF
  have d0 := kF.cell 0
  have d1 := kF.cell 1
  have d2 := kF.cell 2
  have d3 := kF.cell 3
  have c0 := k0.cell 0
  have c1 := k0.cell 1
  have c2 := k0.cell 2
  have c3 := k0.cell 3
  simp only [List.getElem?_toArray, List.getElem?_cons_zero, List.getElem?_cons_succ] at d0 d1 d2 d3 c0 c1 c2 c3
  go_enter Tryz.func16, Tryz.ntmps16
  go_wp2
  exact bodyPost_ret (v := .agg #[.int .i64 1, .bool false, .slice none 0 0, .slice none 0 0]) (by simp [results, Tryz.results16, go_sem, d0, d1, d2, d3]) rfl ⟨rfl, hF⟩
set_option maxRecDepth 100000 in
/-- A copy of numbers. -/
theorem clone30_any (A : Option Addr) (c : Nat) (l : List Int) (K : Nat → Prop) (w : World) (hK : ∀ b, K b → b < w.heap.size) (h : IntS w K (.slice A l.length c) l) (hl : l.length ≤ 1000000000) :
    Calls Tryz.prog 59 #[.slice A l.length c] w (OutI w l) := by
  obtain ⟨ii, hii, hi1, hi2, hi3⟩ := info_parts infoI10
  replace h := hide h
  cases A with
  | none =>
    have hz : l = [] := by
      rcases Nat.lt_or_ge 0 l.length with g | g
      · obtain ⟨b, off, hA, _⟩ := h.out.at_ g; cases hA
      · exact List.eq_nil_of_length_eq_zero (by omega)
    subst hz
    go_enter Tryz.func59, Tryz.ntmps59
    go_wp2
    exact bodyPost_ret (v := .slice none 0 0) (by simp [results, Tryz.results59, go_sem]) rfl ⟨_, rfl, OwnI.nil _ _, Below.refl _ _⟩
  | some ad =>
    obtain ⟨W0, hW0⟩ : ∃ W0, w.alloc (.cells #[] 3) = W0 := ⟨_, rfl⟩
    have hB := below_allocEq (Below.refl w.heap.size w) hW0 (Nat.le_refl _)
    have k0 := Blk.newEq hW0
    have hS := hide (h.out.keep (Agree.below hB hK) (fun _ h => h))
    have hown : OwnI W0 w.heap.size (.slice (some ⟨w.heap.size, 0, none⟩) 0 0) [] := ⟨rfl, .inr ⟨w.heap.size, 0, #[], rfl, Nat.le_refl _, k0, Nat.le_refl _, Nat.zero_le _, rfl, rfl⟩⟩
    clear k0
    go_enter Tryz.func59, Tryz.ntmps59
    go_wp2_with (at_builtin; go_loud (refine wpList_append_flat (enc := Go.Inq.encI) rfl (.tmp 5) (.tmp 6) 27 rfl w.heap.size 3 ii _ 1 8 Tryz.underlying27 hii hi1 hi2 hi3 rfl (by decide) (.slice (some ⟨w.heap.size, 0, none⟩) 0 0) K [] rfl hown (fun _ => rfl) (.slice (some ad) l.length c) l rfl hS.out Go.Inq.encI_one (by rw [List.length_nil]; unfold maxLen; omega) (by rw [List.length_nil]; omega) hB.size ?_); intro v1 w1 hown1 hg1 hv1)
    go_ret
    exact ⟨_, rfl, hown1, below_grown hB hg1 hB.size (fun k hk => by simp [Value.ownBlock] at hk; omega)⟩
end Go.Proofs.YtjomijnbnbideaaGreatDoor

namespace Go.Inq

theorem riseW_iff : ∀ l : List Int, riseW l = true ↔ ∀ k, 0 < k → (h : k < l.length) → l[k - 1] < l[k]
  | [] => by simp [riseW]
  | [a] => by
    simp only [riseW, true_iff]
    intro k h1 h2
    simp at h2
    omega
  | a :: b :: r => by
    rw [riseW, Bool.and_eq_true, decide_eq_true_eq, riseW_iff (b :: r)]
    constructor
    · rintro ⟨h1, h2⟩ k hk hl
      match k, hk, hl with
      | 1, _, _ => simpa using h1
      | k + 2, _, hl =>
        have := h2 (k + 1) (by omega) (by simp at hl ⊢; omega)
        simpa using this
    · intro h
      refine ⟨h 1 (by omega) (by simp), fun k hk hl => ?_⟩
      obtain ⟨k, rfl⟩ : ∃ j, k = j + 1 := ⟨k - 1, by omega⟩
      have := h (k + 2) (by omega) (by simp at hl ⊢; omega)
      simpa using this
def baseW (H : List Txn) (s : Wd) : Bool := rightH H && decide (1 ≤ s.width) && decide (s.width ≤ 32) && decide (s.path.length ≤ H.length - 1)
def pathW (H : List Txn) (s : Wd) : Bool := (List.range s.path.length).all fun i => freshW H.length [s.path.getD i 0] (s.path.take i)
def leftW (H : List Txn) (s : Wd) : Bool := (List.range s.left.length).all fun i => riseW (s.left.getD i []) && freshW H.length (s.left.getD i []) (s.path.take i)
theorem rightW_eq (H : List Txn) (s : Wd) : rightW H s = (baseW H s && pathW H s && (if s.left = [] then decide (s.path = []) else decide (s.left.length = s.path.length + 1) && leftW H s)) := rfl
theorem rightW_base {H : List Txn} {s : Wd} (h : baseW H s = false) : rightW H s = false := by rw [rightW_eq, h]; rfl
theorem rightW_path {H : List Txn} {s : Wd} {k : Nat} (hk : k < s.path.length) (h : freshW H.length [s.path[k]] (s.path.take k) = false) : rightW H s = false := by
  have : pathW H s = false := by
    unfold pathW
    rw [List.all_eq_false]
    exact ⟨k, List.mem_range.2 hk, by simp only [List.getD_eq_getElem?_getD, List.getElem?_eq_getElem hk, Option.getD_some]; rw [h]; simp⟩
  rw [rightW_eq, this]; simp
theorem pathW_of {H : List Txn} {s : Wd} (h : ∀ k (hk : k < s.path.length), freshW H.length [s.path[k]] (s.path.take k) = true) : pathW H s = true := by
  unfold pathW
  rw [List.all_eq_true]
  intro k hk
  have hk := List.mem_range.1 hk
  simp only [List.getD_eq_getElem?_getD, List.getElem?_eq_getElem hk, Option.getD_some]
  exact h k hk
theorem rightW_len {H : List Txn} {s : Wd} (h : s.left ≠ []) (hl : s.left.length ≠ s.path.length + 1) : rightW H s = false := by
  rw [rightW_eq, if_neg h, decide_eq_false hl]; simp
theorem rightW_row {H : List Txn} {s : Wd} {k : Nat} (hk : k < s.left.length) (h : riseW s.left[k] = false ∨ freshW H.length s.left[k] (s.path.take k) = false) : rightW H s = false := by
  have h0 : s.left ≠ [] := by intro e; rw [e] at hk; simp at hk
  have : leftW H s = false := by
    unfold leftW
    rw [List.all_eq_false]
    refine ⟨k, List.mem_range.2 hk, ?_⟩
    simp only [List.getD_eq_getElem?_getD, List.getElem?_eq_getElem hk, Option.getD_some]
    rcases h with h | h <;> rw [h] <;> simp
  rw [rightW_eq, if_neg h0, this]; simp
theorem leftW_of {H : List Txn} {s : Wd} (h : ∀ k (hk : k < s.left.length), riseW s.left[k] = true ∧ freshW H.length s.left[k] (s.path.take k) = true) : leftW H s = true := by
  unfold leftW
  rw [List.all_eq_true]
  intro k hk
  have hk := List.mem_range.1 hk
  simp only [List.getD_eq_getElem?_getD, List.getElem?_eq_getElem hk, Option.getD_some]
  rw [(h k hk).1, (h k hk).2]; rfl
theorem rightW_yes {H : List Txn} {s : Wd} (hb : baseW H s = true) (hp : pathW H s = true) (h0 : s.left ≠ []) (hl : s.left.length = s.path.length + 1) (h : leftW H s = true) : rightW H s = true := by
  rw [rightW_eq, hb, hp, if_neg h0, decide_eq_true hl, h]; rfl
theorem rightW_nil {H : List Txn} {s : Wd} (hb : baseW H s = true) (hp : pathW H s = true) (h0 : s.left = []) : rightW H s = decide (s.path = []) := by
  rw [rightW_eq, hb, hp, if_pos h0]; rfl
theorem freshW_len {n : Nat} {l path : List Int} (h : freshW n l path = true) {x : Int} (hx : x ∈ l) : 0 ≤ x ∧ x < n ∧ path.contains x = false := by
  unfold freshW at h
  have := List.all_eq_true.1 h x hx
  simp only [Bool.and_eq_true, decide_eq_true_eq, Bool.not_eq_true'] at this
  exact ⟨this.1.1, this.1.2, this.2⟩
def SmallWd (s : Wd) : Prop := s.path.length ≤ 1000000000 ∧ s.left.length ≤ 1000000000 ∧ ∀ l ∈ s.left, l.length ≤ 1000000000
end Go.Inq

namespace Go.Proofs.YtjomijnbnbideaaGreatDoor
open Go.RowKit Go.Inq
set_option maxHeartbeats 8000000
attribute [local go_sem ↓] Go.wp_at_zero Go.wp_at_succ

set_option maxRecDepth 100000 in
theorem right30_any (A : Option Addr) (c : Nat) (H : List Txn) (v : Value) (s : Wd) (w : World) (h : TxnS w (Old w) (.slice A H.length c) H) (hn : SmallH H) (hv : WdS w (Old w) v s) (hs : SmallWd s) :
    Calls Tryz.prog 55 #[.agg #[.slice A H.length c], v] w fun e w' => e = .returned (.bool (rightW H s)) ∧ Below w.heap.size w w' := by
  obtain ⟨Ap, cp, Al, cl, rfl, hP, hL⟩ := hv.form
  obtain ⟨_, _, hcpq, hcp⟩ := SlR.len hP
  injection hcpq with q1 q2 q3
  subst q1 q3
  have hfB := hide (rightW_base (H := H) (s := s))
  have hfP := hide (fun k => rightW_path (H := H) (s := s) (k := k))
  have hfL := hide (rightW_len (H := H) (s := s))
  have hfR := hide (fun k => rightW_row (H := H) (s := s) (k := k))
  have hpW := hide (pathW_of (H := H) (s := s))
  have hlW := hide (leftW_of (H := H) (s := s))
  have hyes := hide (rightW_yes (H := H) (s := s))
  have hnil := hide (rightW_nil (H := H) (s := s))
  have hbW : Hid (baseW H s = (rightH H && decide (1 ≤ s.width) && decide (s.width ≤ 32) && decide (s.path.length ≤ H.length - 1))) := hide rfl
  obtain ⟨width, cut, path, left⟩ := s
  dsimp only at *
  obtain ⟨hs1, hs2, hs3⟩ := hs
  dsimp only at hs1 hs2 hs3
  obtain ⟨W0, hW0⟩ : ∃ W0, (w.alloc (.cells #[.slice A H.length c] 24)).alloc (.cells #[.int .i64 width, .bool cut, .slice Ap path.length cp, .slice Al left.length cl] 30) = W0 := ⟨_, rfl⟩
  have hB := below_two hW0
  have k0 := Blk.two1 hW0
  have k1 := Blk.two2 hW0
  have hT := hide (h.below hB)
  have hP0 := hide (hP.below hB)
  have hL0 := hide (hL.below hB)
  have c0 := k0.cell 0
  simp only [List.getElem?_toArray, List.getElem?_cons_zero, List.getElem?_cons_succ] at c0
  have hH32 : rightH H = true → H.length ≤ 32 := fun h => ((rightH_iff H).1 h).1
  replace hH32 := hide hH32
  replace hn := hide hn
  have hs0 := size_two hW0
  replace hs0 := hide hs0
  replace hs3 := hide hs3
  clear h hP hL hv
  go_enter Tryz.func55, Tryz.ntmps55
  go_wp2_with fail
  clear hW0 c0
  refine (right8_any A c H _ hT.out hn.out).mono ?_
  rintro e w1 ⟨rfl, hb1⟩
  replace k0 := k0.below hb1 k0.lt
  replace k1 := k1.below hb1 k1.lt
  have hP1 := hide (hP0.out.below hb1)
  have hL1 := hide (hL0.out.below hb1)
  have hb := hB.trans (hb1.mono hB.size)
  clear hb1 hB hT hP0 hL0
  have c0 := k1.cell 0
  have c2 := k1.cell 2
  have c3 := k1.cell 3
  simp only [List.getElem?_toArray, List.getElem?_cons_zero, List.getElem?_cons_succ] at c0 c2 c3
  cases hr : rightH H with
  | false =>
    have hres := hide (hfB.out (by rw [hbW.out, hr]; rfl))
    clear hr
    go_wp2
    go_ret
    exact ⟨by rw [hres.out]; rfl, hb⟩
  | true =>
    have h32 := hH32.out hr
    rw [hr] at hbW
    clear hr hH32
    by_cases hw1 : 1 ≤ width
    · have hw1b : decide (width < 1) = false := by simpa using hw1
      by_cases hw2 : width ≤ 32
      · have hw2b : decide (width > 32) = false := by simpa using hw2
        by_cases hp : path.length ≤ H.length - 1
        · have hbase := hide (show baseW H ⟨width, cut, path, left⟩ = true by rw [hbW.out]; simp [hw1, hw2, hp])
          have hmb : decide ((path.length : Int) > max ((H.length : Int) - 1) 0) = false := by simp; omega
          clear hw1 hw2 hp hfB hbW
          go_wp2_with fail
          clear hmb hw1b hw2b c0 c2 c3
          go_loopw [39] (fun s39 wr => ∃ k : Nat, k ≤ path.length ∧ s39 = .int .i64 k ∧ Hid (∀ j (hj : j < path.length), j < k → freshW H.length [path[j]] (path.take j) = true) ∧ Below w1.heap.size w1 wr) (fun s39 _ => path.length - (intOf s39).toNat)
          case atStart => exact ⟨0, Nat.zero_le _, by go_num, fun j hj h => absurd h (by omega), Below.refl _ _⟩
          case round =>
            obtain ⟨k, hk, rfl, hall, hbr⟩ := hrel
            have hk1 : (0 : Int) ≤ (k : Int) := Int.natCast_nonneg _
            have hPr := hide (hP1.out.below hbr)
            have m1 := k1.below hbr k1.lt
            have c2 := m1.cell 2
            have c3 := m1.cell 3
            simp only [List.getElem?_toArray, List.getElem?_cons_zero, List.getElem?_cons_succ] at c2 c3
            have hbF := hb.trans (hbr.mono hb.size)
            by_cases hlt : k < path.length
            · have hi2 : (k : Int) < (path.length : Int) := by omega
              obtain ⟨b, off, rfl, _, d0⟩ := hPr.out.at_ hlt
              have hbad := hide (hfP.out k hlt)
              have hst : Hid (freshW H.length [path[k]] (path.take k) = true → ∀ j (hj : j < path.length), j < k + 1 → freshW H.length [path[j]] (path.take j) = true) := fun g j hj hjk => by
                by_cases e : j = k
                · subst e; exact g
                · exact hall.out j hj (by omega)
              have htk := hide (IntS.take hPr.out hk)
              have hlk : (path.take k).length = k := by rw [List.length_take]; omega
              have hkc : k ≤ cp := by omega
              obtain ⟨W2, hW2⟩ : ∃ W2, wr.alloc (.cells #[.int .i64 path[k]] 3) = W2 := ⟨_, rfl⟩
              have hB2 := below_allocEq (Below.refl wr.heap.size wr) hW2 (Nat.le_refl _)
              have n0 := Blk.newEq hW2
              have hone := hide (IntS.of_blk (l := [path[k]]) (K := Old W2) n0 n0.lt)
              have hcall := hide (fresh30_any H.length (some ⟨wr.heap.size, 0, none⟩) 1 [path[k]] (some ⟨b, off, none⟩) cp (path.take k) (Old W2) W2 (fun b h => h) hone.out (by simp) (by rw [hlk]; exact htk.out.below hB2) (by rw [hlk]; omega))
              rw [hlk] at hcall
              have c2b := (m1.allocEq hW2).cell 2
              simp only [List.getElem?_toArray, List.getElem?_cons_zero, List.getElem?_cons_succ] at c2b
              have hbG := hbF.trans (hB2.mono hbF.size)
              have hbR := hbr.trans (hB2.mono hbr.size)
              clear hall hone n0 hB2 htk hPr m1 hbF hbr hcp
              generalize hfr : freshW H.length [path[k]] (path.take k) = fr at *
              generalize path[k] = x at *
              go_wp2_with fail
              clear hW2 c2b c2 d0
              refine hcall.out.mono ?_
              rintro e W3 ⟨rfl, hb3⟩
              replace hbG := hbG.trans (hb3.mono hbG.size)
              replace hbR := hbR.trans (hb3.mono hbR.size)
              clear hcall hb3
              cases fr with
              | false =>
                have hres := hide (hbad.out rfl)
                clear hst hbad hfr
                go_wp2
                go_ret
                exact ⟨by rw [hres.out]; rfl, hbG⟩
              | true =>
                have hgo := hide (hst.out rfl)
                clear hst hbad hfr
                go_wp2
                go_roundw
                case rel => exact ⟨k + 1, by omega, by go_num, hgo, hbR⟩
                case measure => simp [intOf]; omega
            · have hpw := hide (hpW.out fun j hj => hall.out j hj (by omega))
              have hL2 := hide (hL1.out.below hbr)
              clear hall hP1
              by_cases hl0 : left = []
              · subst hl0
                have hres := hide (hnil.out hbase.out hpw.out rfl)
                have hpe : decide (path = []) = ((path.length : Int) == 0) := by
                  cases path <;> simp
                  omega
                rw [hpe] at hres
                clear hpe
                go_wp2
                go_ret
                exact ⟨by rw [hres.out]; rfl, hbF⟩
              · have hl0n : 0 < left.length := List.length_pos_iff.2 hl0
                have hl0b : ((left.length : Int) == 0) = false := by simp; omega
                by_cases hle : left.length = path.length + 1
                · have hleb : ((left.length : Int) != (path.length : Int) + 1) = false := by rw [hle]; simp
                  have hyes2 := hide (hyes.out hbase.out hpw.out hl0 hle)
                  clear hyes hbase hpw hl0 hfL hnil hfP hpW hL1
                  obtain ⟨Wp, rfl⟩ : ∃ Wp, Wp = wr := ⟨_, rfl⟩
                  replace hle := hide hle
                  go_wp2_with fail
                  clear c2 c3 hl0n hl0b hleb hlt k1 k0 hbr hk hk1
                  go_loopw [73] (fun s73 wq => ∃ k : Nat, k ≤ left.length ∧ s73 = .int .i64 k ∧ Hid (∀ j (hj : j < left.length), j < k → riseW left[j] = true ∧ freshW H.length left[j] (path.take j) = true) ∧ Below Wp.heap.size Wp wq) (fun s73 _ => left.length - (intOf s73).toNat)
                  case atStart => exact ⟨0, Nat.zero_le _, by go_num, fun j hj h => absurd h (by omega), Below.refl _ _⟩
                  case round =>
                    obtain ⟨Wo, rfl⟩ : ∃ Wo, Wo = wr := ⟨_, rfl⟩
                    obtain ⟨i, hi, rfl, hall, hbr⟩ := hrel
                    have hk1 : (0 : Int) ≤ (i : Int) := Int.natCast_nonneg _
                    have hPo := hide (hPr.out.below hbr)
                    have m2 := m1.below hbr m1.lt
                    have hbG := hbF.trans (hbr.mono hbF.size)
                    by_cases hlt : i < left.length
                    · have hi2 : (i : Int) < (left.length : Int) := by omega
                      have hip : i ≤ path.length := by have := hle.out; omega
                      obtain ⟨bl, ol, Ar, cr, rfl, _, d0, hrow⟩ := (hL2.out.below hbr).at_ hlt
                      have hrl := hs3.out _ (List.getElem_mem hlt)
                      have hbad := hide (hfR.out i hlt)
                      have hst : Hid (riseW left[i] = true ∧ freshW H.length left[i] (path.take i) = true → ∀ j (hj : j < left.length), j < i + 1 → riseW left[j] = true ∧ freshW H.length left[j] (path.take j) = true) := fun g j hj hjk => by
                        by_cases e : j = i
                        · subst e; exact g
                        · exact hall.out j hj (by omega)
                      have hri := hide (riseW_iff left[i])
                      clear hall
                      generalize left[i] = row at *
                      replace hrow := hide hrow
                      go_wp2_with fail
                      clear d0
                      go_loopw [10] (fun s10 wq => ∃ j : Nat, (row.length = 0 ∧ j = 0 ∨ j < row.length) ∧ s10 = .int .i64 ((j : Int) + 1) ∧ Hid (∀ q, 0 < q → (h : q < row.length) → q < j + 1 → row[q - 1] < row[q]) ∧ Below Wo.heap.size Wo wq) (fun s10 _ => row.length - (intOf s10).toNat)
                      case atStart => exact ⟨0, by omega, by go_num, fun q h1 h2 h3 => absurd h3 (by omega), Below.refl _ _⟩
                      case round =>
                        obtain ⟨j, hj, rfl, hup, hbq⟩ := hrel
                        have hj1 : (0 : Int) ≤ (j : Int) := Int.natCast_nonneg _
                        by_cases hjl : j + 1 < row.length
                        · have hj2 : ((j : Int) + 1) < (row.length : Int) := by omega
                          have hj3 : (j : Int) < (row.length : Int) := by omega
                          obtain ⟨b, off, rfl, _, x0⟩ := (hrow.out.below hbq).at_ (i := j) (by omega)
                          have x1 := ((hrow.out.below hbq).cells (i := j + 1) hjl).2
                          have hup2 : Hid (row[j] < row[j + 1] → ∀ q, 0 < q → (h : q < row.length) → q < j + 1 + 1 → row[q - 1] < row[q]) := fun g q h1 h2 h3 => by
                            by_cases e : q = j + 1
                            · subst e; exact g
                            · exact hup.out q h1 h2 (by omega)
                          have hno : Hid (¬ row[j] < row[j + 1] → riseW row = false) := fun g => by
                            cases hrr : riseW row with
                            | false => rfl
                            | true => exact absurd (hri.out.1 hrr (j + 1) (by omega) hjl) g
                          clear hup
                          generalize row[j] = x at *
                          generalize row[j + 1] = y at *
                          by_cases hxy : x < y
                          · have hb1 : decide (x ≥ y) = false := by simp; omega
                            have hgo := hide (hup2.out hxy)
                            clear hno hup2 hxy
                            go_wp2_with fail
                            go_quiet (fail)
                            go_wp2
                            go_roundw
                            case rel => exact ⟨j + 1, by omega, by go_num, hgo, hbq.trans ⟨rfl, rfl, rfl, Nat.le_refl _, fun _ _ => rfl⟩⟩
                            case measure => simp [intOf]; omega
                          · have hb1 : decide (x ≥ y) = true := by simp; omega
                            have hres := hide (hbad.out (.inl (hno.out hxy)))
                            clear hno hup2 hxy
                            go_wp2_with fail
                            go_quiet (fail)
                            go_wp2
                            go_ret
                            exact ⟨by rw [hres.out]; rfl, (hbG.trans (hbq.mono hbG.size)).trans ⟨rfl, rfl, rfl, Nat.le_refl _, fun _ _ => rfl⟩⟩
                        · have hrise := hide (hri.out.2 fun q h1 h2 => hup.out q h1 h2 (by omega))
                          have hj2 : ((j : Int) + 1) ≥ (row.length : Int) := by omega
                          have m3 := m2.below hbq m2.lt
                          have c2 := m3.cell 2
                          simp only [List.getElem?_toArray, List.getElem?_cons_zero, List.getElem?_cons_succ] at c2
                          have hlk : (path.take i).length = i := by rw [List.length_take]; omega
                          have hkc : i ≤ cp := by omega
                          have htk := (IntS.take hPo.out hip).below hbq
                          have hcall := hide (fresh30_any H.length Ar cr row Ap cp (path.take i) (Old wr) wr (fun b h => h) (hrow.out.below hbq) hrl (by rw [hlk]; exact htk) (by rw [hlk]; omega))
                          rw [hlk] at hcall
                          have hbR := hbr.trans (hbq.mono hbr.size)
                          have hbS := hbG.trans (hbq.mono hbG.size)
                          clear hri hup hrow htk m2 m3 hPo hbG hbr hbq m1 hlk hj hjl
                          generalize hfr : freshW H.length row (path.take i) = fr at *
                          go_wp2_with fail
                          clear c2
                          refine hcall.out.mono ?_
                          rintro e W3 ⟨rfl, hb3⟩
                          replace hbS := hbS.trans (hb3.mono hbS.size)
                          replace hbR := hbR.trans (hb3.mono hbR.size)
                          clear hcall hb3
                          cases fr with
                          | false =>
                            have hres := hide (hbad.out (.inr rfl))
                            clear hst hbad hfr
                            go_wp2
                            go_ret
                            exact ⟨by rw [hres.out]; rfl, hbS⟩
                          | true =>
                            have hgo := hide (hst.out ⟨hrise.out, rfl⟩)
                            clear hst hbad hfr
                            go_wp2
                            go_roundw
                            case rel => exact ⟨i + 1, by omega, by go_num, hgo, hbR⟩
                            case measure => simp [intOf]; omega
                    · have hres := hide (hyes2.out (hlW.out fun j hj => hall.out j hj (by omega)))
                      go_wp2
                      go_ret
                      exact ⟨by rw [hres.out]; rfl, hbG⟩
                · have hleb : ((left.length : Int) != (path.length : Int) + 1) = true := by simp; omega
                  have hres := hide (hfL.out hl0 hle)
                  go_wp2
                  go_ret
                  exact ⟨by rw [hres.out]; rfl, hbF⟩
        · have hres := hide (hfB.out (by rw [hbW.out]; simp [hp]))
          have hmb : decide ((path.length : Int) > max ((H.length : Int) - 1) 0) = true := by simp; omega
          clear hp hw1 hw2
          go_wp2
          go_ret
          exact ⟨by rw [hres.out]; rfl, hb⟩
      · have hw2b : decide (width > 32) = true := by simpa using hw2
        have hres := hide (hfB.out (by rw [hbW.out]; simp [hw2]))
        clear hw2
        go_wp2
        go_ret
        exact ⟨by rw [hres.out]; rfl, hb⟩
    · have hw1b : decide (width < 1) = true := by simpa using hw1
      have hres := hide (hfB.out (by rw [hbW.out]; simp [hw1]))
      clear hw1
      go_wp2
      go_ret
      exact ⟨by rw [hres.out]; rfl, hb⟩
end Go.Proofs.YtjomijnbnbideaaGreatDoor

namespace Go.Proofs.YtjomijnbnbideaaGreatDoor
open Go.RowKit Go.Inq
set_option maxHeartbeats 1000000
attribute [local go_sem ↓] Go.wp_at_zero Go.wp_at_succ

theorem idxI_some {l : List Int} {x : Int} {i : Nat} (h : l.idxOf? x = some i) : idxI l x = i := by
  unfold idxI
  have : l.findIdx? (· == x) = some i := h
  rw [this]
theorem idxI_no {l : List Int} {x : Int} (h : l.idxOf? x = none) : idxI l x = -1 := by
  unfold idxI
  have : l.findIdx? (· == x) = none := h
  rw [this]
theorem turnC_none {path : List Int} {p : Cho} (h1 : idxI path p.a < 0) (h2 : idxI path p.b < 0) : turnC path p = none := by
  unfold turnC
  cases ha : path.idxOf? p.a with
  | some i => rw [idxI_some ha] at h1; omega
  | none =>
    cases hb : path.idxOf? p.b with
    | some i => rw [idxI_some hb] at h2; omega
    | none => rfl
theorem turnC_turn {path : List Int} {p : Cho} (h0 : ¬ (idxI path p.a < 0 ∧ idxI path p.b < 0)) (h : idxI path p.a < 0 ∨ (0 ≤ idxI path p.b ∧ idxI path p.b < idxI path p.a)) : turnC path p = some ⟨p.key, p.b, p.a⟩ := by
  unfold turnC
  cases ha : path.idxOf? p.a with
  | some i =>
    rw [idxI_some ha] at h h0
    cases hb : path.idxOf? p.b with
    | some j =>
      rw [idxI_some hb] at h h0
      dsimp only
      rw [if_pos (by omega)]
    | none => rw [idxI_no hb] at h; omega
  | none =>
    rw [idxI_no ha] at h h0
    cases hb : path.idxOf? p.b with
    | some j => rfl
    | none => rw [idxI_no hb] at h0; omega
theorem turnC_same {path : List Int} {p : Cho} (h : ¬ (idxI path p.a < 0 ∨ (0 ≤ idxI path p.b ∧ idxI path p.b < idxI path p.a))) : turnC path p = some p := by
  unfold turnC
  cases ha : path.idxOf? p.a with
  | some i =>
    rw [idxI_some ha] at h
    cases hb : path.idxOf? p.b with
    | some j =>
      rw [idxI_some hb] at h
      dsimp only
      rw [if_neg (by omega)]
    | none => rfl
  | none => rw [idxI_no ha] at h; omega
theorem dec_snoc (path : List Int) (l : List Cho) (x : Cho) : (l ++ [x]).filterMap (turnC path) = l.filterMap (turnC path) ++ (match turnC path x with | some y => [y] | none => []) := by
  rw [List.filterMap_append]
  congr 1
  cases h : turnC path x <;> simp [h]
set_option maxRecDepth 100000 in
theorem dec30_any (A : Option Addr) (c : Nat) (H : List Txn) (Ap : Option Addr) (cp : Nat) (path : List Int) (w : World) (h : TxnS w (Old w) (.slice A H.length c) H) (hn : SmallH H) (hr : rightH H = true) (hP : IntS w (Old w) (.slice Ap path.length cp) path) (hpl : path.length ≤ 1000000000) :
    Calls Tryz.prog 60 #[.agg #[.slice A H.length c], .slice Ap path.length cp] w (OutC w (decW H path)) := by
  obtain ⟨ic, hic, hi1, hi2, hi3⟩ := info_parts infoC9
  obtain ⟨W0, hW0⟩ : ∃ W0, w.alloc (.cells #[.slice A H.length c] 24) = W0 := ⟨_, rfl⟩
  have hB := below_allocEq (Below.refl w.heap.size w) hW0 (Nat.le_refl _)
  have k0 := Blk.newEq hW0
  have hT := hide (h.below hB)
  have hP0 := hide (hP.below hB)
  have c0 := k0.cell 0
  simp only [List.getElem?_toArray, List.getElem?_cons_zero, List.getElem?_cons_succ] at c0
  have hLn := pairsL_len hr
  have hdef : Hid (decW H path = (pairsL H).filterMap (turnC path)) := hide rfl
  replace hn := hide hn
  replace hr := hide hr
  clear h hP k0
  go_enter Tryz.func60, Tryz.ntmps60
  go_wp2_with fail
  clear hW0 c0
  refine (pairs9_any A c H _ hT.out hn.out hr.out).mono ?_
  rintro e w1 ⟨vL, rfl, hLO, hb1⟩
  have hP1 := hide (hP0.out.below hb1)
  have hL := hide (hLO.sl (K := Old w1) (fun g _ h => h))
  obtain ⟨AL, cL, rfl⟩ := hLO.form
  have hb := hB.trans (hb1.mono hB.size)
  clear hLO hb1 hB hT hP0
  generalize pairsL H = L at *
  go_wp2_with fail
  go_loopw [5, 13] (fun s5 s13 wr => ∃ k : Nat, k ≤ L.length ∧ s13 = .int .i64 k ∧ OwnC wr w1.heap.size s5 ((L.take k).filterMap (turnC path)) ∧ Below w1.heap.size w1 wr) (fun _ s13 _ => L.length - (intOf s13).toNat)
  case atStart => exact ⟨0, Nat.zero_le _, by go_num, OwnC.nil _ _, Below.refl _ _⟩
  case round =>
    obtain ⟨k, hk, rfl, hown, hbr⟩ := hrel
    have hk1 : (0 : Int) ≤ (k : Int) := Int.natCast_nonneg _
    have hbF := hb.trans (hbr.mono hb.size)
    by_cases hlt : k < L.length
    · have hil2 : (k : Int) < (L.length : Int) := by omega
      obtain ⟨b, off, rfl, _, d0, d1, d2⟩ := (hL.out.below hbr).at_ hlt
      have hst := hide (dec_snoc path (L.take k) L[k])
      rw [← take_snoc' hlt] at hst
      have hnon := hide (turnC_none (path := path) (p := L[k]))
      have htur := hide (turnC_turn (path := path) (p := L[k]))
      have hsam := hide (turnC_same (path := path) (p := L[k]))
      have hll : ((L.take k).filterMap (turnC path)).length ≤ k := Nat.le_trans (List.length_filterMap_le _ _) (by rw [List.length_take]; omega)
      generalize hDe : (L.take (k + 1)).filterMap (turnC path) = D' at *
      generalize (L.take k).filterMap (turnC path) = D at *
      generalize L[k] = p at *
      obtain ⟨key, a, b2⟩ := p
      dsimp only at *
      obtain ⟨W2, hW2⟩ : ∃ W2, wr.alloc (.cells #[.int .i64 key, .int .i64 a, .int .i64 b2] 49) = W2 := ⟨_, rfl⟩
      have hB2 := below_allocEq (Below.refl wr.heap.size wr) hW2 (Nat.le_refl _)
      have n0 := Blk.newEq hW2
      have e0 := n0.cell 0
      have e1 := n0.cell 1
      have e2 := n0.cell 2
      simp only [List.getElem?_toArray, List.getElem?_cons_zero, List.getElem?_cons_succ] at e0 e1 e2
      have hP2 := hide ((hP1.out.below hbr).below hB2)
      obtain ⟨As, cs, rfl⟩ := hown.form
      have hown2 : OwnC W2 w1.heap.size _ D := own_below hown hB2 (Nat.le_refl _)
      have hbW := hbr.trans (hB2.mono hbr.size)
      have hsW := hB2.size
      have hrs := hbr.size
      have hfar := hide (fun g hg => (hown.lt g hg).2)
      clear hown hbr hbF
      have hca := hide (fun W z (hq : IntS W (Old W2) (.slice Ap path.length cp) path) => (index_int Ap cp path z (Old W2) W hq (by unfold maxLen; omega)).mono fun _ _ h => (⟨h.1, h.2.symm⟩ : _ ∧ _))
      replace n0 := hide n0
      go_wp2_with fail
      go_quiet ((go_at_call 115; exact Calls.quiet_of_same (hca.out _ _ (hP2.out.keep (Agree.drewN _ _ _) (fun _ h => h)))))
      generalize idxI path a = x at *
      generalize idxI path b2 = y at *
      have hkD : D.length + 1 ≤ maxLen := by unfold maxLen; omega
      have hkb : (D.length + 1) * 24 ≤ 140737488355328 := by omega
      have hj : decide (x < 0) = decide (x < 0) := rfl
      by_cases hn2 : x < 0 ∧ y < 0
      · have q1 : decide (x < 0) = true := by simpa using hn2.1
        have q2 : decide (y < 0) = true := by simpa using hn2.2
        have hD : D' = D := by rw [hst.out, hnon.out hn2.1 hn2.2, List.append_nil]
        rw [hD] at hDe
        replace hDe := hide hDe
        clear hn2 htur hsam hnon hst hD
        go_wp2
        go_roundw
        case rel => exact ⟨k + 1, by omega, by go_num, by rw [hDe.out]; exact own_drewN hown2 _, hbW.trans ⟨rfl, rfl, rfl, Nat.le_refl _, fun _ _ => rfl⟩⟩
        case measure => simp [intOf]; omega
      · by_cases ht : x < 0 ∨ (0 ≤ y ∧ y < x)
        · have hD : D' = D ++ [⟨key, b2, a⟩] := by rw [hst.out, htur.out hn2 ht]
          rw [hD] at hDe
          replace hDe := hide hDe
          replace hn2 := hide hn2
          replace ht := hide ht
          clear htur hsam hnon hst hD
          have hne1 : (Value.slice As D.length cs).ownBlock ≠ some wr.heap.size := fun e => Nat.lt_irrefl _ (hfar.out _ e)
          have hown3 : (((W2.drewN nq).setCell ⟨wr.heap.size, 1, none⟩ (.int .i64 b2)).setCell ⟨wr.heap.size, 2, none⟩ (.int .i64 a)).ownsRow w1.heap.size 49 3 (.slice As D.length cs) D.length (D.map encC).flatten :=
            own_setCell (own_setCell (own_drewN hown2 nq) (p := ⟨wr.heap.size, 1, none⟩) hne1 _) (p := ⟨wr.heap.size, 2, none⟩) hne1 _
          have hbX : Below w1.heap.size w1 (((W2.drewN nq).setCell ⟨wr.heap.size, 1, none⟩ (.int .i64 b2)).setCell ⟨wr.heap.size, 2, none⟩ (.int .i64 a)) :=
            ((hbW.trans ⟨rfl, rfl, rfl, Nat.le_refl _, fun _ _ => rfl⟩ : Below w1.heap.size w1 (W2.drewN nq)).setCell (p := ⟨wr.heap.size, 1, none⟩) hrs _).setCell (p := ⟨wr.heap.size, 2, none⟩) hrs _
          clear hne1
          have f1 := n0.out.frozen 1
          have f2 := n0.out.frozen 2
          by_cases q1 : x < 0
          · have q1b : decide (x < 0) = true := by simpa using q1
            have q2b : decide (y < 0) = false := by have := hn2.out; simp; omega
            clear q1
            go_wp2_with (at_builtin; go_loud (refine wpList_push (enc := encC) rfl (.tmp 48) (.tmp 50) 61 rfl w1.heap.size 49 ic _ 3 24 Tryz.underlying61 hic hi1 hi2 hi3 rfl (by decide) (.slice As D.length cs) D rfl hown3 (fun _ => rfl) (⟨key, b2, a⟩ : Cho) _ rfl (by first | rfl | (simp [Act.eval]; done) | (simp; rfl)) encC_one hkD hkb (by simp; omega) w1 w1.heap.size (Nat.le_refl _) hbX ?_); intro v1 w6 hown1 hg1 hb1 hat1)
            go_roundw
            case rel => exact ⟨k + 1, by omega, by go_num, by rw [hDe.out]; exact hown1, hb1⟩
            case measure => simp [intOf]; omega
          · have q1b : decide (x < 0) = false := by simpa using q1
            have q3b : decide (y ≥ 0) = true := by have := ht.out; simp; omega
            have q4b : decide (y < x) = true := by have := ht.out; simp; omega
            clear q1
            go_wp2_with (at_builtin; go_loud (refine wpList_push (enc := encC) rfl (.tmp 48) (.tmp 50) 61 rfl w1.heap.size 49 ic _ 3 24 Tryz.underlying61 hic hi1 hi2 hi3 rfl (by decide) (.slice As D.length cs) D rfl hown3 (fun _ => rfl) (⟨key, b2, a⟩ : Cho) _ rfl (by first | rfl | (simp [Act.eval]; done) | (simp; rfl)) encC_one hkD hkb (by simp; omega) w1 w1.heap.size (Nat.le_refl _) hbX ?_); intro v1 w6 hown1 hg1 hb1 hat1)
            go_roundw
            case rel => exact ⟨k + 1, by omega, by go_num, by rw [hDe.out]; exact hown1, hb1⟩
            case measure => simp [intOf]; omega
        · have hD : D' = D ++ [⟨key, a, b2⟩] := by rw [hst.out, hsam.out ht]
          rw [hD] at hDe
          replace hDe := hide hDe
          replace ht := hide ht
          clear htur hsam hnon hst hD
          have q1b : decide (x < 0) = false := by have := ht.out; simp; omega
          by_cases q3 : 0 ≤ y
          · have q3b : decide (y ≥ 0) = true := by simpa using q3
            have q4b : decide (y < x) = false := by have := ht.out; simp; omega
            clear q3
            go_wp2_with (at_builtin; go_loud (refine wpList_push (enc := encC) rfl (.tmp 48) (.tmp 50) 61 rfl w1.heap.size 49 ic _ 3 24 Tryz.underlying61 hic hi1 hi2 hi3 rfl (by decide) (.slice As D.length cs) D rfl (own_drewN hown2 _) (fun _ => rfl) (⟨key, a, b2⟩ : Cho) _ rfl rfl encC_one hkD hkb (Nat.le_trans hrs hsW) w1 w1.heap.size (Nat.le_refl _) (hbW.trans ⟨rfl, rfl, rfl, Nat.le_refl _, fun _ _ => rfl⟩) ?_); intro v1 w6 hown1 hg1 hb1 hat1)
            go_roundw
            case rel => exact ⟨k + 1, by omega, by go_num, by rw [hDe.out]; exact hown1, hb1⟩
            case measure => simp [intOf]; omega
          · have q3b : decide (y ≥ 0) = false := by simpa using q3
            clear q3
            go_wp2_with (at_builtin; go_loud (refine wpList_push (enc := encC) rfl (.tmp 48) (.tmp 50) 61 rfl w1.heap.size 49 ic _ 3 24 Tryz.underlying61 hic hi1 hi2 hi3 rfl (by decide) (.slice As D.length cs) D rfl (own_drewN hown2 _) (fun _ => rfl) (⟨key, a, b2⟩ : Cho) _ rfl rfl encC_one hkD hkb (Nat.le_trans hrs hsW) w1 w1.heap.size (Nat.le_refl _) (hbW.trans ⟨rfl, rfl, rfl, Nat.le_refl _, fun _ _ => rfl⟩) ?_); intro v1 w6 hown1 hg1 hb1 hat1)
            go_roundw
            case rel => exact ⟨k + 1, by omega, by go_num, by rw [hDe.out]; exact hown1, hb1⟩
            case measure => simp [intOf]; omega
    · obtain rfl : k = L.length := by omega
      rw [List.take_length] at hown
      clear hL hP1
      go_wp2
      go_ret
      exact ⟨_, rfl, by rw [hdef.out]; exact own_base' hown hb.size, hbF⟩
end Go.Proofs.YtjomijnbnbideaaGreatDoor

namespace Go.Proofs.YtjomijnbnbideaaGreatDoor
open Go.RowKit Go.Inq
set_option maxHeartbeats 8000000
attribute [local go_sem ↓] Go.wp_at_zero Go.wp_at_succ

theorem rback18_any (k a b : Int) (w : World) : Calls Tryz.prog 74 #[.agg #[.int .i64 k, .int .i64 a, .int .i64 b]] w fun e w' => e = .returned (.agg #[.int .i64 k, .int .i64 b, .int .i64 a]) ∧ Below w.heap.size w w' := by
  obtain ⟨W0, hW0⟩ : ∃ W0, (w.alloc (.cells #[.int .i64 k, .int .i64 a, .int .i64 b] 49)).alloc (.cells #[.int .i64 0, .int .i64 0, .int .i64 0] 49) = W0 := ⟨_, rfl⟩
  have hb := below_two hW0
  have k1 := Blk.two1 hW0
  have k2 := Blk.two2 hW0
  have a0 := k1.cell 0
  have a1 := k1.cell 1
  have a2 := k1.cell 2
  have b0 := k2.cell 0
  have b1 := k2.cell 1
  have b2 := k2.cell 2
  have f0 := k2.frozen 0
  have f1 := k2.frozen 1
  have f2 := k2.frozen 2
  simp only [List.getElem?_toArray, List.getElem?_cons_zero, List.getElem?_cons_succ] at a0 a1 a2 b0 b1 b2
  have hz := hide (((hb.setCell (p := ⟨w.heap.size + 1, 0, none⟩) (by simp) (.int .i64 k)).setCell (p := ⟨w.heap.size + 1, 1, none⟩) (by simp) (.int .i64 b)).setCell (p := ⟨w.heap.size + 1, 2, none⟩) (by simp) (.int .i64 a))
  have hq := ((k2.set_ 0 (.int .i64 k)).set_ 1 (.int .i64 b)).set_ 2 (.int .i64 a)
  simp only [List.setIfInBounds_toArray, List.set_cons_zero, List.set_cons_succ] at hq
  have y0 := hq.cell 0
  have y1 := hq.cell 1
  have y2 := hq.cell 2
  simp only [List.getElem?_toArray, List.getElem?_cons_zero, List.getElem?_cons_succ] at y0 y1 y2
  clear hq
  go_enter Tryz.func74, Tryz.ntmps74
  go_wp2_with fail
  exact bodyPost_ret (v := .agg #[.int .i64 k, .int .i64 b, .int .i64 a]) (by simp [results, Tryz.results74, go_sem, y0, y1, y2]) rfl ⟨rfl, hz.out⟩

/-- The first among some numbers that is one of a pair. -/
def scanC (p : Cho) : List Int → Option Cho
  | [] => none
  | x :: r => if x = p.a then some p else if x = p.b then some ⟨p.key, p.b, p.a⟩ else scanC p r
theorem scanC_turn (p : Cho) : ∀ l : List Int, turnC l p = scanC p l
  | [] => by simp [turnC, scanC]
  | x :: r => by
    have ih := scanC_turn p r
    unfold scanC
    rw [← ih]
    unfold turnC
    rw [List.idxOf?_cons, List.idxOf?_cons]
    by_cases h1 : x = p.a
    · subst h1
      simp only [beq_self_eq_true, if_true]
      by_cases h2 : p.a = p.b
      · simp [h2]
      · have : (p.a == p.b) = false := by simpa using h2
        rw [this]
        cases List.idxOf? p.b r <;> simp
    · have e1 : (x == p.a) = false := by simpa using h1
      rw [e1]
      by_cases h2 : x = p.b
      · subst h2
        simp only [beq_self_eq_true, if_true]
        rw [if_neg h1]
        cases List.idxOf? p.a r <;> simp
      · have e2 : (x == p.b) = false := by simpa using h2
        rw [e2, if_neg h1, if_neg h2]
        cases List.idxOf? p.a r <;> cases List.idxOf? p.b r <;> simp
theorem scan_a {p : Cho} {l : List Int} {k : Nat} (hk : k < l.length) (h : l[k] = p.a) : scanC p (l.drop k) = some p := by
  rw [List.drop_eq_getElem_cons hk]; simp [scanC, h]
theorem scan_b {p : Cho} {l : List Int} {k : Nat} (hk : k < l.length) (h1 : l[k] ≠ p.a) (h : l[k] = p.b) : scanC p (l.drop k) = some ⟨p.key, p.b, p.a⟩ := by
  rw [List.drop_eq_getElem_cons hk]
  unfold scanC
  rw [if_neg h1, if_pos h]
theorem scan_no {p : Cho} {l : List Int} {k : Nat} (hk : k < l.length) (h1 : l[k] ≠ p.a) (h : l[k] ≠ p.b) : scanC p (l.drop k) = scanC p (l.drop (k + 1)) := by
  rw [List.drop_eq_getElem_cons hk]
  conv => lhs; unfold scanC
  rw [if_neg h1, if_neg h]
theorem decTo_step {path : List Int} {P : List Cho} {i : Nat} (hi : i < P.length) : (P.take (i + 1)).filterMap (turnC path) = (P.take i).filterMap (turnC path) ++ (turnC path P[i]).toList := by
  rw [take_snoc' hi, List.filterMap_append]
  cases h : turnC path P[i] <;> simp [h]
end Go.Proofs.YtjomijnbnbideaaGreatDoor
