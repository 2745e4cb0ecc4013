/-
  Walks: layer 8: hist.Right.
-/
import Derived.Laws.CopyOwn
import Derived.Test.YtfhnamomiaekdaaRSiRowsWC
import Derived.Test.YtfhnamomiaekdaaR01
import Derived.Test.YtfhnamomiaekdaaRSiRowsWB
import Derived.Test.YtfhnamomiaekdaaRSiRowsWA
set_option linter.unusedVariables false
set_option linter.unusedSimpArgs false
namespace Go.Proofs.Ytfhnamomiaekdaa
open Go.RowKit Go.Inq Go.Shelf
set_option maxHeartbeats 4000000
attribute [local go_sem] Oper.semAt_some
attribute [local go_sem ↓] Go.wp_at_zero Go.wp_at_succ

theorem faults8_any (v : Value) (w : World) : Calls Try.prog 36 #[.agg #[v]] w fun e w' => e = .returned (.func (.func 47) #[] #[.pointer (some ⟨w.heap.size, 0, none⟩)]) ∧ w' = w.alloc (.cells #[v] 24) := by
  go_enter Try.func36, Try.ntmps36
  go_wp2
  go_ret
  exact ⟨rfl, rfl⟩
theorem faults8_stops (Bh n₀ c : Nat) (A : Option Addr) (H : List Txn) (hn : SmallH H) (w : World) (hBn : Bh < n₀) (hnW : n₀ ≤ w.heap.size) (hc : w.cell? ⟨Bh, 0, none⟩ = some (.slice A H.length c)) (hT : TxnS w (fun b => b < n₀) (.slice A H.length c) H) :
    SeqStopsK Fence.wide (3 - 1) Try.prog 47 #[.pointer (some ⟨Bh, 0, none⟩)] (fun x : Bool => #[Value.bool x]) (KeepsAll n₀) (fun ys => ys = faultsL H) (fun pre => pre <+: faultsL H) (faultsL H).length w := fun l J Jx W hW hJ _ hY h0 =>
  faults1_in (3 - 1) (by omega) l Bh n₀ c A H hn.1 hn.2 J Jx W hJ hY ((hW.cell (p := ⟨Bh, 0, none⟩) (by show Bh < _; omega)).trans hc) hBn (Nat.le_trans hnW hW.size) (TxnS.keep hT (Agree.below hW fun b h => by omega) (fun b h => h)) h0
set_option maxRecDepth 100000 in
theorem right8_any (A : Option Addr) (c : Nat) (H : List Txn) (w : World) (h : TxnS w (Old w) (.slice A H.length c) H) (hn : SmallH H) :
    Calls Try.prog 19 #[.agg #[.slice A H.length c]] w fun e w' => e = .returned (.bool (rightH H)) ∧ Below w.heap.size w w' := by
  refine (callsIn_wide (n := 3)).1 ?_
  have hro : Fence.wide.round = none := rfl
  refine callsIn_of_wp_marks Try.func19 rfl trivial ?_ hro
  simp only [Try.ntmps19, List.size_toArray, List.length_cons, List.length_nil, Nat.reduceAdd, Nat.reduceSub, Array.replicate_succ, Array.replicate_zero, List.push_toArray, List.append_toArray, List.nil_append, List.cons_append]
  gi_wp2_with fail
  refine ⟨trivial, ?_⟩
  refine (callsIn_wide.2 (faults8_any _ _)).mono ?_
  rintro e w1 ⟨rfl, rfl⟩
  dsimp only
  gi_wp2
  obtain ⟨W0, hW0⟩ : ∃ W0, ((w.alloc (.cells #[.slice A H.length c] 24)).alloc (.cells #[.bool false] 4)).alloc (.cells #[.slice A H.length c] 24) = W0 := ⟨_, rfl⟩
  have hs0 : W0.heap.size = w.heap.size + 3 := by rw [← hW0]; simp
  have hBW : Below w.heap.size w W0 := by rw [← hW0]; exact (((Below.refl _ w).alloc (Nat.le_refl _) _).alloc (by simp) _).alloc (by simp; omega) _
  have k1 : Blk W0 (w.heap.size + 1) 4 #[.bool false] := by
    rw [← hW0]
    have := Blk.new (w.alloc (.cells #[.slice A H.length c] 24)) 4 #[.bool false]
    simp only [World.size_alloc] at this
    exact this.alloc _
  have k2 : Blk W0 (w.heap.size + 2) 24 #[.slice A H.length c] := by
    rw [← hW0]
    have := Blk.new ((w.alloc (.cells #[.slice A H.length c] 24)).alloc (.cells #[.bool false] 4)) 24 #[.slice A H.length c]
    simp only [World.size_alloc] at this
    exact this
  simp only [World.size_alloc]
  rw [hW0]
  have h2 : TxnS W0 (fun b => b < w.heap.size) (.slice A H.length c) H := TxnS.keep h (Agree.below hBW fun b h => h) (fun b h => h)
  have c2 := k2.cell 0
  simp only [List.getElem?_toArray, List.getElem?_cons_zero, List.getElem?_cons_succ] at c2
  have c1 := k1.cell 0
  simp only [List.getElem?_toArray, List.getElem?_cons_zero, List.getElem?_cons_succ] at c1
  have f1 := k1.frozen 0
  clear hW0
  refine wpIn_rangeFunc_ownF hro (by omega) (gf := 47) (lb := #[.pointer (some ⟨w.heap.size + 2, 0, none⟩)]) rfl trivial (enters_of Try.func47 (by kernel_rfl) rfl)
    (faults8_stops (w.heap.size + 2) (w.heap.size + 3) c A H hn W0 (by omega) (by omega) c2 (TxnS.fit h2 (fun b h => by omega))) KeepsAll.t (KeepsAll.b (by omega)) (Below.refl _ _) (fun _ => rfl)
    (fun pre W => ((pre.all id = true) ∧ W.cell? ⟨w.heap.size + 1, 0, none⟩ = some (.bool false) ∧ W.frozen? ⟨w.heap.size + 1, 0, none⟩ = false) ∧ Below w.heap.size w W)
    (fun cc pre W => (cc = .ret ∧ false ∈ pre ∧ W.cell? ⟨w.heap.size + 1, 0, none⟩ = some (.bool false)) ∧ Below w.heap.size w W)
    (OwnFrom.and (Own.from (fun s A B row hs hg hr => ⟨hs.1, cell_kept hs.2.1 hg hr, (frozen_kept hs.2.1 hg hr).trans hs.2.2⟩) _) (ownFrom_below (Nat.le_refl _) (by omega)))
    (fun cc => OwnFrom.and (Own.from (fun s A B row hs hg hr => ⟨hs.1, hs.2.1, cell_kept hs.2.2 hg hr⟩) _) (ownFrom_below (Nat.le_refl _) (by omega)))
    ⟨⟨rfl, c1, f1⟩, hBW⟩
    (fun x => { tmps := #[.agg #[.slice A H.length c], .pointer (some ⟨w.heap.size, 0, none⟩), .pointer (some ⟨w.heap.size + 1, 0, none⟩), .bool x, .agg #[.slice A H.length c], .func (.func 47) #[] #[.pointer (some ⟨w.heap.size + 2, 0, none⟩)], .bool x, undef, undef], defers := [] }) ?assign ?body ?done ?stop
  case assign =>
    intro l x W K hK
    gi_wp2
    exact hK
  case body =>
    rintro l pre x W ⟨⟨hp, hcr, hfr⟩, hB⟩ _
    cases x with
    | false =>
      gi_wp2
      exact ⟨KeepsOthers.setCell _ _ _, ⟨rfl, by simp, World.cell?_setCell_same' _ _ _ (by rw [hcr]; rfl)⟩, hB.setCell (p := ⟨w.heap.size + 1, 0, none⟩) (by simp) _⟩
    | true =>
      gi_wp2
      exact ⟨KeepsOthers.refl _, KeepsAll.refl _ _, ⟨by rw [List.all_append, hp]; rfl, hcr, hfr⟩, hB⟩
  case done =>
    rintro D xs W hD rfl ⟨⟨hall, hcr, hfr⟩, hB⟩ hK
    have hall := hide hall
    gi_wp2
    have hK' := (KeepsOthers.setCell W ⟨w.heap.size + 1, 0, none⟩ (.bool true)).same D _ hK rfl
    refine ⟨by simp, .inl ⟨_, _, rfl, run_takeDeferred hK', ?_⟩⟩
    have hc5 := cell_kept (World.cell?_setCell_same' W ⟨w.heap.size + 1, 0, none⟩ (.bool true) (by rw [hcr]; rfl)) (grownBy_putObj' _ D (.deferred none)) (fun r e => by cases e; exact ⟨_, hK', rfl⟩)
    refine ⟨.bool true, ?_, by unfold rightH; rw [hall.out], (hB.setCell (p := ⟨w.heap.size + 1, 0, none⟩) (by simp) _).trans (belowK_b (w := w) (Nat.le_refl _) _ D _ _ (by omega) hK' rfl rfl)⟩
    simp [results, Try.f19, go_sem, hc5]
  case stop =>
    rintro D cc pre W hD hpre ⟨⟨rfl, hin, hcr⟩, hB⟩ hK
    have hf := hide (pre_false hpre hin)
    gi_wp2
    refine ⟨by simp, .inl ⟨_, _, rfl, run_takeDeferred hK, ?_⟩⟩
    have hc5 := cell_kept hcr (grownBy_putObj' _ D (.deferred none)) (fun r e => by cases e; exact ⟨_, hK, rfl⟩)
    refine ⟨.bool false, ?_, by unfold rightH; rw [hf.out], hB.trans (belowK_b (w := w) (Nat.le_refl _) W D _ _ (by omega) hK rfl rfl)⟩
    simp [results, Try.f19, go_sem, hc5]
end Go.Proofs.Ytfhnamomiaekdaa

namespace Go.Proofs.Ytfhnamomiaekdaa
open Go.RowKit Go.Inq
set_option maxHeartbeats 2000000
attribute [local go_sem ↓] Go.wp_at_zero Go.wp_at_succ

theorem eq_take {α : Type} {l m : List α} {k : Nat} (h1 : k < l.length) (h2 : k < m.length) (ht : l.take k = m.take k) (he : l[k] = m[k]) : l.take (k + 1) = m.take (k + 1) := by
  rw [List.take_succ_eq_append_getElem h1, List.take_succ_eq_append_getElem h2, ht, he]
theorem ne_take {α : Type} {l m : List α} {k : Nat} (h1 : k < l.length) (h2 : k < m.length) (he : l[k] ≠ m[k]) : l ≠ m := by
  rintro rfl; exact he rfl
theorem ret_bool {b c : Bool} (h : b = c) : Ending.returned (.bool b) = .returned (.bool c) := by rw [h]
theorem equal_int (A1 A2 : Option Addr) (c1 c2 : Nat) (l m : List Int) (K1 K2 : Nat → Prop) (w : World) (h1 : IntS w K1 (.slice A1 l.length c1) l) (h2 : IntS w K2 (.slice A2 m.length c2) m) (hl : l.length ≤ 1000000000) (hm : m.length ≤ 1000000000) :
    Calls Try.prog 28 #[.slice A1 l.length c1, .slice A2 m.length c2] w fun e w' => e = .returned (.bool (decide (l = m))) ∧ Below w.heap.size w w' := by
  by_cases hlen : l.length = m.length
  · have hne := hide (fun k (g1 : k < l.length) (g2 : k < m.length) => ne_take g1 g2)
    have hst := hide (fun k (g1 : k < l.length) (g2 : k < m.length) => eq_take g1 g2)
    have hend := hide (fun (e : l.take l.length = m.take l.length) => (by rw [List.take_length, hlen, List.take_length] at e; exact e : l = m))
    have hn1 : ((l.length : Int) != (m.length : Int)) = false := by rw [hlen]; exact bne_self_eq_false _
    have hle := hide hlen
    clear hlen
    replace h1 := hide h1
    replace h2 := hide h2
    go_enter Try.func28, Try.ntmps28
    go_wp2
    go_loopw [13] (fun s13 wr => ∃ k : Nat, k ≤ l.length ∧ s13 = .int .i64 k ∧ Hid (l.take k = m.take k) ∧ Below w.heap.size w wr) (fun s13 _ => l.length - (intOf s13).toNat)
    case atStart => exact ⟨0, Nat.zero_le _, by go_num, hide (by simp), Below.refl _ _⟩
    case round =>
      obtain ⟨k, hk, rfl, htk, hb⟩ := hrel
      have hk1 : (0 : Int) ≤ (k : Int) := Int.natCast_nonneg _
      by_cases hlt : k < l.length
      · have hi2 : (k : Int) < (l.length : Int) := by omega
        have g1 : k < m.length := by rw [← hle.out]; exact hlt
        have hi3 : (k : Int) < (m.length : Int) := by omega
        obtain ⟨b1, o1, rfl, x0, x1⟩ := h1.out.at_ hlt
        obtain ⟨b2, o2, rfl, y0, y1⟩ := h2.out.at_ g1
        replace x1 := (hb.cell (p := ⟨b1, o1 + k, none⟩) (block_lt_of_cell x1)).trans x1
        replace y1 := (hb.cell (p := ⟨b2, o2 + k, none⟩) (block_lt_of_cell y1)).trans y1
        have hn := hide (hne.out k hlt g1)
        have hs := hide (hst.out k hlt g1 htk.out)
        generalize l[k] = x at *
        generalize m[k] = y at *
        cases hxy : (x != y) with
        | true =>
          have hr := hide (hn.out (by simpa using hxy))
          have hr2 : Hid (decide (l = m) = false) := hide (decide_eq_false hr.out)
          clear hn hs hr x0 y0
          go_wp2
          go_quiet (fail)
          go_wp2
          go_ret
          exact ⟨ret_bool hr2.out.symm, hb.trans ⟨rfl, rfl, rfl, Nat.le_refl _, fun _ _ => rfl⟩⟩
        | false =>
          have hr := hide (hs.out (by simpa using hxy))
          clear hn hs x0 y0
          go_wp2
          go_quiet (fail)
          go_wp2
          go_roundw
          case rel => exact ⟨k + 1, by omega, by go_num, hr, hb.trans ⟨rfl, rfl, rfl, Nat.le_refl _, fun _ _ => rfl⟩⟩
          case measure => simp [intOf]; omega
      · obtain rfl : k = l.length := by omega
        have hr2 : Hid (decide (l = m) = true) := hide (decide_eq_true (hend.out htk.out))
        go_wp2
        go_ret
        exact ⟨ret_bool hr2.out.symm, hb⟩
  · have hn1 : ((l.length : Int) != (m.length : Int)) = true := bne_iff_ne.2 (by omega)
    have hr2 : Hid (decide (l = m) = false) := hide (decide_eq_false fun e => hlen (by rw [e]))
    clear hlen
    go_enter Try.func28, Try.ntmps28
    go_wp2
    go_ret
    exact ⟨ret_bool hr2.out.symm, Below.refl _ _⟩
end Go.Proofs.Ytfhnamomiaekdaa

namespace Go.Inq
open Go Go.RowKit

theorem wpList_copy_whole {P : Program} {w : World} {ops : Array Oper} {rest : List Oper} {o : Oper} {a : Act} {Q : Exit → Act → World → Prop} {α : Type} (f : α → Value)
    (hgd : o.guard = none) (d s : Operand) (dT sT : TypeId) (ho : o.op = .call { callee := .builtin .copy, args := #[d, s], argTypes := #[dT, sT] })
    (elem : TypeId) (hu : P.underlying dT = some (.slice elem)) (hsz : (P.info? elem).map (·.size) = some 1)
    (g n dc c : Nat) (A : Option Addr) (hd : a.eval d = .slice (some ⟨g, 0, none⟩) n dc) (hs : a.eval s = .slice A n c)
    (cur : Array Value) (t : TypeId) (hg : Blk w g t cur) (hcur : cur.size = n) (l : List α) (hl : l.length = n)
    (hsrc : ∀ i (hi : i < l.length), ∃ b off, A = some ⟨b, off, none⟩ ∧ w.cell? ⟨b, off + i, none⟩ = some (f l[i])) (h1 : ∀ x ∈ l, (f x).oneCell' = true)
    (h : ∀ w', Blk w' g t (l.map f).toArray → w.grownBy w' (some g) → wpList P ops Q rest (a.put o.dst (goInt n)) w') : wpList P ops Q (o :: rest) a w := by
  by_cases h0 : n = 0
  · subst h0
    have : l = [] := List.eq_nil_of_length_eq_zero hl
    subst this
    have hc : cur = #[] := Array.eq_empty_of_size_eq_zero hcur
    subst hc
    exact wpList_copy_nothing hgd d s dT sT ho elem hu hsz _ _ 0 dc 0 c hd hs rfl (h w (by simpa using hg) ⟨rfl, rfl, rfl, Nat.le_refl _, fun _ _ _ => rfl⟩)
  · obtain ⟨b, off, rfl, _⟩ := hsrc 0 (by omega)
    have hcs : (l.map f).length = n := by simpa using hl
    refine wpList_copy_own hgd d s dT sT ho elem hu hsz g 0 n dc ⟨b, off, none⟩ n c hd hs cur t hg (l.map f) (by rw [hcs]; simp [Nat.min_def]) (fun j v hj => ?_) (by rw [hcs]; omega) (fun v hv => ?_) ?_
    · rw [List.getElem?_map] at hj
      cases hlj : l[j]? with
      | none => rw [hlj] at hj; cases hj
      | some x =>
        rw [hlj] at hj
        injection hj with hj
        obtain ⟨hjl, rfl⟩ := List.getElem?_eq_some_iff.1 hlj
        obtain ⟨b', off', hA, hc⟩ := hsrc j hjl
        injection hA with hA
        injection hA with e1 e2
        subst e1 e2
        rw [Addr.add_lit, ← hj]
        exact hc
    · obtain ⟨x, hx, rfl⟩ := List.mem_map.1 hv
      exact h1 x hx
    · rw [hcs]
      have e : (cur.toList.take 0 ++ (l.map f ++ cur.toList.drop (0 + n))).toArray = (l.map f).toArray := by
        rw [List.drop_of_length_le (by simp; omega)]; simp
      rw [e]
      exact h _ (setRow_heap w g cur _ t _ hg) ⟨rfl, rfl, rfl, by simp [World.setRow], fun k hk hne => setRow_other w g k _ (fun e => hne (by rw [e]))⟩

section
variable {w W : World} {o : Obj} {K : Nat → Prop}
theorem Blk.allocEq {g : Nat} {t : TypeId} {cs : Array Value} (h : Blk w g t cs) (e : w.alloc o = W) : Blk W g t cs := by subst e; exact h.alloc o
theorem Agree.allocEq (e : w.alloc o = W) (hk : ∀ b, K b → b < w.heap.size) : Agree K w W := by subst e; exact Agree.alloc hk o
theorem below_allocEq {B : Nat} {w0 : World} (h : Below B w0 w) (e : w.alloc o = W) (hB : B ≤ w.heap.size) : Below B w0 W := by subst e; exact h.alloc hB o
theorem Blk.newEq {t : TypeId} {cs : Array Value} (e : w.alloc (.cells cs t) = W) : Blk W w.heap.size t cs := by subst e; exact Blk.new _ _ _
theorem Blk.two1 {t : TypeId} {cs : Array Value} (e : (w.alloc (.cells cs t)).alloc o = W) : Blk W w.heap.size t cs := by subst e; exact (Blk.new _ _ _).alloc _
theorem Blk.two2 {t : TypeId} {cs : Array Value} (e : (w.alloc o).alloc (.cells cs t) = W) : Blk W (w.heap.size + 1) t cs := by
  subst e
  have := Blk.new (w.alloc o) t cs
  simpa using this
theorem size_two {o' : Obj} (e : (w.alloc o).alloc o' = W) : W.heap.size = w.heap.size + 2 := by subst e; simp
theorem below_two {o' : Obj} (e : (w.alloc o).alloc o' = W) : Below w.heap.size w W := by subst e; exact ((Below.refl _ _).alloc (Nat.le_refl _) _).alloc (by simp) _
theorem Blk.three1 {o' : Obj} {t : TypeId} {cs : Array Value} (e : ((w.alloc (.cells cs t)).alloc o).alloc o' = W) : Blk W w.heap.size t cs := by subst e; exact ((Blk.new _ _ _).alloc _).alloc _
theorem Blk.three2 {o' : Obj} {t : TypeId} {cs : Array Value} (e : ((w.alloc o).alloc (.cells cs t)).alloc o' = W) : Blk W (w.heap.size + 1) t cs := by
  subst e
  have := (Blk.new (w.alloc o) t cs).alloc o'
  simpa using this
theorem Blk.three3 {o' : Obj} {t : TypeId} {cs : Array Value} (e : ((w.alloc o).alloc o').alloc (.cells cs t) = W) : Blk W (w.heap.size + 1 + 1) t cs := by
  subst e
  have := Blk.new ((w.alloc o).alloc o') t cs
  simpa using this
theorem size_three {o' o'' : Obj} (e : ((w.alloc o).alloc o').alloc o'' = W) : W.heap.size = w.heap.size + 3 := by subst e; simp
theorem below_three {o' o'' : Obj} (e : ((w.alloc o).alloc o').alloc o'' = W) : Below w.heap.size w W := by subst e; exact (((Below.refl _ _).alloc (Nat.le_refl _) _).alloc (by simp) _).alloc (by simp; omega) _
theorem size_allocEq (e : w.alloc o = W) : W.heap.size = w.heap.size + 1 := by subst e; simp
end
theorem grown_trans {w w' w'' : World} {r : Option Nat} (h : w.grownBy w' r) (h' : w'.grownBy w'' r) : w.grownBy w'' r :=
  ⟨h'.os.trans h.os, h'.tape.trans h.tape, h'.output.trans h.output, Nat.le_trans h.size h'.size, fun k hk hne => (h'.block k (Nat.lt_of_lt_of_le hk h.size) hne).trans (h.block k hk hne)⟩
theorem grown_below {w w' : World} {B : Nat} {r : Option Nat} (hb : Below B w w') (hB : w.heap.size ≤ B) : w.grownBy w' r := ⟨hb.os, hb.tape, hb.output, hb.size, fun k hk _ => hb.block k (by omega)⟩
theorem grown_set {w : World} (g i : Nat) (u : Value) : w.grownBy (w.setCell ⟨g, i, none⟩ u) (some g) :=
  ⟨rfl, rfl, rfl, by simp, fun k hk hne => Below.heap_setCell w ⟨g, i, none⟩ u k (fun e => hne (by simp at e; rw [e]))⟩
theorem grown_drew {w : World} {r : Option Nat} : w.grownBy w.drew r := ⟨rfl, rfl, rfl, Nat.le_refl _, fun _ _ _ => rfl⟩
theorem grown_drewN {w : World} {r : Option Nat} (n : Nat) : w.grownBy (w.drewN n) r := ⟨rfl, rfl, rfl, Nat.le_refl _, fun _ _ _ => rfl⟩
theorem Agree.ofGrown {K : Nat → Prop} {w w' : World} {g : Nat} (h : w.grownBy w' (some g)) (hK : ∀ b, K b → b < g) (hg : g ≤ w.heap.size) : Agree K w w' := Agree.grown h fun b hb => ⟨by have := hK b hb; omega, by have := hK b hb; simp; omega⟩
end Go.Inq

namespace Go.Proofs.Ytfhnamomiaekdaa
open Go.RowKit Go.Inq
set_option maxHeartbeats 4000000
attribute [local go_sem ↓] Go.wp_at_zero Go.wp_at_succ

def rightB (H : List Txn) (π : List Int) : Bool := rightH H && permB π H.length
/-- Numbers gone through: each once, below n. -/
structure OrdI (n : Nat) (l : List Int) : Prop where
  nd : l.Nodup
  bd : ∀ x ∈ l, 0 ≤ x ∧ x < (n : Int)
theorem OrdI.snoc {n : Nat} {l : List Int} {x : Int} (h : OrdI n l) (h0 : 0 ≤ x) (h1 : x < (n : Int)) (hc : l.contains x = false) : OrdI n (l ++ [x]) := by
  have hx : x ∉ l := fun hm => by rw [List.contains_iff_mem.2 hm] at hc; cases hc
  refine ⟨?_, fun y hy => ?_⟩
  · rw [List.nodup_append]
    refine ⟨h.nd, by simp, fun a ha b hb e => ?_⟩
    rw [List.mem_singleton] at hb
    subst hb; subst e; exact hx ha
  · rw [List.mem_append, List.mem_singleton] at hy
    rcases hy with hy | rfl
    · exact h.bd y hy
    · exact ⟨h0, h1⟩
theorem ord_perm {n : Nat} {l : List Int} (h : OrdI n l) (hl : l.length = n) : permB l n = true := perm_nd hl h.nd h.bd
theorem perm_out {π : List Int} {n k : Nat} (hk : k < π.length) (h : π[k] < 0 ∨ (n : Int) ≤ π[k]) : permB π n = false := by
  rw [Bool.eq_false_iff]
  intro hp
  have := perm_bd hp hk
  omega
theorem perm_twice {π : List Int} {n k : Nat} (hk : k < π.length) (h : (π.take k).contains π[k] = true) : permB π n = false := by
  rw [Bool.eq_false_iff]
  intro hp
  obtain ⟨i, hi, e⟩ := List.getElem_of_mem (List.contains_iff_mem.1 h)
  rw [List.getElem_take] at e
  rw [List.length_take] at hi
  exact perm_ne hp (show i < k by omega) hk e
/-- Who was seen, as cells. -/
def SeenA (W : World) (Bs : Nat) (l : List Int) : Prop := ∃ cs, Blk W Bs 76 cs ∧ cs.size = 32 ∧ ∀ t : Nat, t < 32 → cs[t]? = some (.bool (l.contains (t : Int)))
theorem SeenA.lt {W : World} {Bs : Nat} {l : List Int} (h : SeenA W Bs l) : Bs < W.heap.size := by
  obtain ⟨cs, h1, _⟩ := h
  exact h1.lt
theorem SeenA.cell {W : World} {Bs : Nat} {l : List Int} (h : SeenA W Bs l) (t : Nat) (ht : t < 32) : W.cell? ⟨Bs, t, none⟩ = some (.bool (l.contains (t : Int))) ∧ W.frozen? ⟨Bs, t, none⟩ = false := by
  obtain ⟨cs, h1, h2, h3⟩ := h
  exact ⟨(h1.cell _).trans (h3 t ht), h1.frozen _⟩
theorem SeenA.store {W : World} {Bs : Nat} {l : List Int} (h : SeenA W Bs l) (t : Nat) (ht : t < 32) : SeenA (W.setCell ⟨Bs, t, none⟩ (.bool true)) Bs (l ++ [(t : Int)]) := by
  obtain ⟨cs, h1, h2, h3⟩ := h
  refine ⟨_, h1.set_ _ _, by simpa using h2, fun u hu => ?_⟩
  rw [Array.getElem?_setIfInBounds, List.contains_append]
  by_cases e : t = u
  · subst e
    rw [if_pos rfl, if_pos (by rw [h2]; omega)]
    simp
  · rw [if_neg e, h3 u hu]
    have : ([(t : Int)].contains (u : Int)) = false := by
      rw [List.contains_cons, List.contains_nil, Bool.or_false, beq_eq_false_iff_ne]; omega
    rw [this, Bool.or_false]
theorem repl32 : (#[.bool false, .bool false, .bool false, .bool false, .bool false, .bool false, .bool false, .bool false, .bool false, .bool false, .bool false, .bool false, .bool false, .bool false, .bool false, .bool false, .bool false, .bool false, .bool false, .bool false, .bool false, .bool false, .bool false, .bool false, .bool false, .bool false, .bool false, .bool false, .bool false, .bool false, .bool false, .bool false] : Array Value) = Array.replicate 32 (.bool false) := rfl
theorem SeenA.new {W : World} {Bs : Nat} (h : Blk W Bs 76 (Array.replicate 32 (.bool false))) : SeenA W Bs [] :=
  ⟨_, h, by simp, fun t ht => by rw [List.contains_nil]; simp [ht]⟩
set_option maxRecDepth 100000 in
theorem serR_any (A : Option Addr) (c : Nat) (H : List Txn) (Ap : Option Addr) (cp : Nat) (π : List Int) (w : World) (h : TxnS w (Old w) (.slice A H.length c) H) (hn : SmallH H) (hπ : IntS w (Old w) (.slice Ap π.length cp) π) (hpl : π.length ≤ 1000000) :
    Calls Try.prog 25 #[.agg #[.slice A H.length c], .slice Ap π.length cp] w fun e w' => e = .returned (.bool (rightB H π)) ∧ Below w.heap.size w w' := by
  obtain ⟨W0, hW0⟩ : ∃ W0, w.alloc (.cells #[.slice A H.length c] 24) = W0 := ⟨_, rfl⟩
  have hB := below_allocEq (Below.refl w.heap.size w) hW0 (Nat.le_refl _)
  have k0 := Blk.newEq hW0
  have h0 := hide (h.below hB)
  have hdef : Hid (rightB H π = (rightH H && permB π H.length)) := hide rfl
  have hne := hide (fun (e : π.length ≠ H.length) => (by unfold permB; rw [decide_eq_false e, Bool.false_and] : permB π H.length = false))
  have hord := hide (fun (e : π.length = H.length) (g : OrdI H.length π) => ord_perm g e)
  have hout := hide (fun k (hk : k < π.length) e => perm_out (n := H.length) hk e)
  have htw := hide (fun k (hk : k < π.length) e => perm_twice (n := H.length) hk e)
  replace hn := hide hn
  replace h := hide h
  replace hπ := hide hπ
  have c0 := k0.cell 0
  simp only [List.getElem?_toArray, List.getElem?_cons_zero, List.getElem?_cons_succ] at c0
  go_enter Try.func25, Try.ntmps25
  go_wp2_with fail
  clear hW0 c0
  refine (right8_any A c H _ h0.out hn.out).mono ?_
  rintro e w1 ⟨rfl, hb1⟩
  have hb := hB.trans (hb1.mono hB.size)
  replace k0 := k0.below hb1 k0.lt
  clear hb1 hB h0
  cases hr : rightH H with
  | false =>
    have hx : Hid (rightB H π = false) := hide (by rw [hdef.out, hr]; rfl)
    clear hr hdef hne hord hout htw
    go_wp2
    go_ret
    exact ⟨ret_bool hx.out.symm, hb⟩
  | true =>
    have h32 : H.length ≤ 32 := ((rightH_iff H).1 hr).1
    have hdx : Hid (rightB H π = permB π H.length) := hide (by rw [hdef.out, hr]; rfl)
    have c0 := k0.cell 0
    simp only [List.getElem?_toArray, List.getElem?_cons_zero, List.getElem?_cons_succ] at c0
    clear hdef hr
    by_cases hlen : π.length = H.length
    · have hz1 : ((π.length : Int) != (H.length : Int)) = false := by rw [hlen]; exact bne_self_eq_false _
      replace hord := hide (hord.out hlen)
      have hl32 : π.length ≤ 32 := by omega
      have hll := hide hlen
      clear hne hlen
      go_upto_region 4 with fail
      rw [repl32]
      obtain ⟨W2, hW2⟩ : ∃ W2, w1.alloc (.cells (Array.replicate 32 (.bool false)) 76) = W2 := ⟨_, rfl⟩
      rw [hW2]
      have hB2 := below_allocEq (Below.refl w1.heap.size w1) hW2 (Nat.le_refl _)
      have hs2 := SeenA.new (Blk.newEq hW2)
      have hb2 := hb.trans (hB2.mono hb.size)
      have hw1 := hb.size
      clear hW2 hB2 hb k0 c0
      generalize w1.heap.size = Bs at *
      go_wp2_with fail
      go_loopw [21] (fun s21 wr => ∃ k : Nat, k ≤ π.length ∧ s21 = .int .i64 k ∧ SeenA wr Bs (π.take k) ∧ Hid (OrdI H.length (π.take k)) ∧ Below w.heap.size w wr) (fun s21 _ => π.length - (intOf s21).toNat)
      case atStart => exact ⟨0, Nat.zero_le _, by go_num, by simpa using hs2, hide ⟨by simp, fun x hx => by simp at hx⟩, hb2⟩
      case round =>
        clear hs2 hb2
        obtain ⟨k, hk, rfl, hs, ho, hb⟩ := hrel
        have hk1 : (0 : Int) ≤ (k : Int) := Int.natCast_nonneg _
        by_cases hlt : k < π.length
        · have hi2 : (k : Int) < (π.length : Int) := by omega
          obtain ⟨b, off, rfl, hbK, d0'⟩ := hπ.out.at_ hlt
          have d0 := (hb.cell (p := ⟨b, off + k, none⟩) hbK).trans d0'
          clear d0' hbK
          have h1 := hide (hout.out k hlt)
          have h2 := hide (htw.out k hlt)
          have hsn := hide (take_snoc' hlt)
          have hos := hide (fun e0 e1 e2 => ho.out.snoc (x := π[k]'hlt) e0 e1 e2)
          generalize π[k] = x at *
          by_cases q1 : x < 0
          · have q1b : decide (x < 0) = true := decide_eq_true q1
            have hx : Hid (rightB H π = false) := hide (by rw [hdx.out, h1.out (.inl q1)])
            clear q1 h1 h2 hsn hos ho
            go_wp2
            go_ret
            exact ⟨ret_bool hx.out.symm, hb⟩
          · have q1b : decide (x < 0) = false := decide_eq_false q1
            by_cases q2 : (π.length : Int) ≤ x
            · have q2b : decide (x ≥ (π.length : Int)) = true := decide_eq_true q2
              have hx : Hid (rightB H π = false) := hide (by rw [hdx.out, h1.out (.inr (by rw [← hll.out]; exact q2))])
              clear q1 q2 h1 h2 hsn hos ho
              go_wp2
              go_ret
              exact ⟨ret_bool hx.out.symm, hb⟩
            · have q2b : decide (x ≥ (π.length : Int)) = false := decide_eq_false q2
              obtain ⟨t, rfl⟩ : ∃ t : Nat, x = t := ⟨x.toNat, by omega⟩
              have q2c : decide (π.length ≤ t) = false := decide_eq_false (by omega)
              have q1c : decide ((t : Int) < 0) = false := decide_eq_false (by omega)
              clear q2b q1b
              have ht32 : t < 32 := by omega
              have hti : (t : Int) < 32 := by omega
              have ht0 : (0 : Int) ≤ (t : Int) := Int.natCast_nonneg _
              obtain ⟨g1, g2⟩ := hs.cell t ht32
              have hss := hide (hs.store t ht32)
              rw [← hsn.out] at hss
              have hlx : (t : Int) < (H.length : Int) := by rw [← hll.out]; omega
              cases hc : (π.take k).contains (t : Int) with
              | true =>
                rw [hc] at g1
                have hx : Hid (rightB H π = false) := hide (by rw [hdx.out, h2.out hc])
                clear q1 q2 h1 h2 hsn hos ho hc hss
                go_wp2
                go_ret
                exact ⟨ret_bool hx.out.symm, hb⟩
              | false =>
                rw [hc] at g1
                have ho2 := hos.out (by omega) hlx hc
                rw [← hsn.out] at ho2
                replace ho2 := hide ho2
                have hb5 := hb.setCell (p := ⟨Bs, t, none⟩) hw1 (.bool true)
                clear q1 q2 h1 h2 hsn hos ho hc
                go_wp2
                go_roundw
                case rel => exact ⟨k + 1, by omega, by go_num, hss.out, ho2, hb5⟩
                case measure => simp [intOf]; omega
        · obtain rfl : k = π.length := by omega
          rw [List.take_length] at ho
          have hx : Hid (rightB H π = true) := hide (by rw [hdx.out, hord.out ho.out])
          go_wp2
          go_ret
          exact ⟨ret_bool hx.out.symm, hb⟩
    · have hz1 : ((π.length : Int) != (H.length : Int)) = true := bne_iff_ne.2 (by omega)
      have hx : Hid (rightB H π = false) := hide (by rw [hdx.out, hne.out hlen])
      clear hlen hne hord hout htw
      go_wp2
      go_ret
      exact ⟨ret_bool hx.out.symm, hb⟩
end Go.Proofs.Ytfhnamomiaekdaa

namespace Go.Proofs.Ytfhnamomiaekdaa
open Go.RowKit Go.Inq

def tk2 : List It := [⟨0, -1⟩, ⟨1, -1⟩]
def exS : List Txn := [⟨0, [0], tk2⟩, ⟨1, [1], tk2⟩]
def exL : List Txn := [⟨0, [0], [⟨0, -1⟩]⟩, ⟨1, [0], [⟨0, -1⟩]⟩]
theorem exS_keys : keysL exS = [0, 1] := by
  rw [keysL_16 (by decide)]
  kernel_rfl
theorem exL_keys : keysL exL = [0] := by
  rw [keysL_16 (by decide)]
  kernel_rfl
theorem exS_rows : rowsL exS [0, 1] = [⟨0, [0]⟩, ⟨1, [1]⟩] := by
  unfold rowsL
  rw [if_pos ⟨by kernel_rfl, by kernel_rfl⟩, exS_keys]
  kernel_rfl
theorem exL_rows : rowsL exL [0, 1] = [⟨0, [0, 1]⟩] := by
  unfold rowsL
  rw [if_pos ⟨by kernel_rfl, by kernel_rfl⟩, exL_keys]
  kernel_rfl
theorem exS_right : rightS exS [⟨0, [0]⟩, ⟨1, [1]⟩] = true := by rw [← exS_rows]; exact rowsL_right (by kernel_rfl) (by kernel_rfl)
theorem exL_right : rightS exL [⟨0, [0, 1]⟩] = true := by rw [← exL_rows]; exact rowsL_right (by kernel_rfl) (by kernel_rfl)
theorem exS_check : checkS exS [⟨0, [0]⟩, ⟨1, [1]⟩] = true := by
  unfold checkS
  rw [exS_right]
  kernel_rfl
theorem exL_check : checkS exL [⟨0, [0, 1]⟩] = false := by
  unfold checkS
  rw [exL_right]
  kernel_rfl
theorem exL_cho : choS exL [⟨0, [0, 1]⟩] = [⟨0, 0, 1⟩] := by
  unfold choS
  rw [if_pos exL_right]
  kernel_rfl
theorem exS_ser01 : checkB exS [0, 1] = false := by kernel_rfl
theorem exS_ser10 : checkB exS [1, 0] = false := by kernel_rfl
end Go.Proofs.Ytfhnamomiaekdaa
