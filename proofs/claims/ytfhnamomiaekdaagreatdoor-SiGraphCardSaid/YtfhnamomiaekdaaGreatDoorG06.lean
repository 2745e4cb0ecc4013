/-
  Walks: layer 8: hist.Right.
-/
import Derived.Laws.CopyOwn
import Derived.Test.YtfhnamomiaekdaaGreatDoorG05
import Derived.Test.YtfhnamomiaekdaaGreatDoorG01
import Derived.Test.YtfhnamomiaekdaaGreatDoorG02
set_option linter.unusedVariables false
set_option linter.unusedSimpArgs false
namespace Go.Proofs.YtfhnamomiaekdaaGreatDoor
open Go.RowKit Go.Inq Go.Shelf
set_option maxHeartbeats 4000000
attribute [local go_sem] Oper.semAt_some
attribute [local go_sem ↓] Go.wp_at_zero Go.wp_at_succ

theorem faults8_any (v : Value) (w : World) : Calls Tryz.prog 125 #[.agg #[v]] w fun e w' => e = .returned (.func (.func 190) #[] #[.pointer (some ⟨w.heap.size, 0, none⟩)]) ∧ w' = w.alloc (.cells #[v] 24) := by
  go_enter Tryz.func125, Tryz.ntmps125
  go_wp2
  go_ret
  exact ⟨rfl, rfl⟩
theorem faults8_stops (Bh n₀ c : Nat) (A : Option Addr) (H : List Txn) (hn : SmallH H) (w : World) (hBn : Bh < n₀) (hnW : n₀ ≤ w.heap.size) (hc : w.cell? ⟨Bh, 0, none⟩ = some (.slice A H.length c)) (hT : TxnS w (fun b => b < n₀) (.slice A H.length c) H) :
    SeqStopsK Fence.wide (3 - 1) Tryz.prog 190 #[.pointer (some ⟨Bh, 0, none⟩)] (fun x : Bool => #[Value.bool x]) (KeepsAll n₀) (fun ys => ys = faultsL H) (fun pre => pre <+: faultsL H) (faultsL H).length w := fun l J Jx W hW hJ _ hY h0 =>
  faults1_in (3 - 1) (by omega) l Bh n₀ c A H hn.1 hn.2 J Jx W hJ hY ((hW.cell (p := ⟨Bh, 0, none⟩) (by show Bh < _; omega)).trans hc) hBn (Nat.le_trans hnW hW.size) (TxnS.keep hT (Agree.below hW fun b h => by omega) (fun b h => h)) h0
set_option maxRecDepth 100000 in
theorem right8_any (A : Option Addr) (c : Nat) (H : List Txn) (w : World) (h : TxnS w (Old w) (.slice A H.length c) H) (hn : SmallH H) :
    Calls Tryz.prog 67 #[.agg #[.slice A H.length c]] w fun e w' => e = .returned (.bool (rightH H)) ∧ Below w.heap.size w w' := by
  refine (callsIn_wide (n := 3)).1 ?_
  have hro : Fence.wide.round = none := rfl
  refine callsIn_of_wp_marks Tryz.func67 rfl trivial ?_ hro
  simp only [Tryz.ntmps67, List.size_toArray, List.length_cons, List.length_nil, Nat.reduceAdd, Nat.reduceSub, Array.replicate_succ, Array.replicate_zero, List.push_toArray, List.append_toArray, List.nil_append, List.cons_append]
  gi_wp2_with fail
  refine ⟨trivial, ?_⟩
  refine (callsIn_wide.2 (faults8_any _ _)).mono ?_
  rintro e w1 ⟨rfl, rfl⟩
  dsimp only
  gi_wp2
  obtain ⟨W0, hW0⟩ : ∃ W0, ((w.alloc (.cells #[.slice A H.length c] 24)).alloc (.cells #[.bool false] 4)).alloc (.cells #[.slice A H.length c] 24) = W0 := ⟨_, rfl⟩
  have hs0 : W0.heap.size = w.heap.size + 3 := by rw [← hW0]; simp
  have hBW : Below w.heap.size w W0 := by rw [← hW0]; exact (((Below.refl _ w).alloc (Nat.le_refl _) _).alloc (by simp) _).alloc (by simp; omega) _
  have k1 : Blk W0 (w.heap.size + 1) 4 #[.bool false] := by
    rw [← hW0]
    have := Blk.new (w.alloc (.cells #[.slice A H.length c] 24)) 4 #[.bool false]
    simp only [World.size_alloc] at this
    exact this.alloc _
  have k2 : Blk W0 (w.heap.size + 2) 24 #[.slice A H.length c] := by
    rw [← hW0]
    have := Blk.new ((w.alloc (.cells #[.slice A H.length c] 24)).alloc (.cells #[.bool false] 4)) 24 #[.slice A H.length c]
    simp only [World.size_alloc] at this
    exact this
  simp only [World.size_alloc]
  rw [hW0]
  have h2 : TxnS W0 (fun b => b < w.heap.size) (.slice A H.length c) H := TxnS.keep h (Agree.below hBW fun b h => h) (fun b h => h)
  have c2 := k2.cell 0
  simp only [List.getElem?_toArray, List.getElem?_cons_zero, List.getElem?_cons_succ] at c2
  have c1 := k1.cell 0
  simp only [List.getElem?_toArray, List.getElem?_cons_zero, List.getElem?_cons_succ] at c1
  have f1 := k1.frozen 0
  clear hW0
  refine wpIn_rangeFunc_ownF hro (by omega) (gf := 190) (lb := #[.pointer (some ⟨w.heap.size + 2, 0, none⟩)]) rfl trivial (enters_of Tryz.func190 (by kernel_rfl) rfl)
    (faults8_stops (w.heap.size + 2) (w.heap.size + 3) c A H hn W0 (by omega) (by omega) c2 (TxnS.fit h2 (fun b h => by omega))) KeepsAll.t (KeepsAll.b (by omega)) (Below.refl _ _) (fun _ => rfl)
    (fun pre W => ((pre.all id = true) ∧ W.cell? ⟨w.heap.size + 1, 0, none⟩ = some (.bool false) ∧ W.frozen? ⟨w.heap.size + 1, 0, none⟩ = false) ∧ Below w.heap.size w W)
    (fun cc pre W => (cc = .ret ∧ false ∈ pre ∧ W.cell? ⟨w.heap.size + 1, 0, none⟩ = some (.bool false)) ∧ Below w.heap.size w W)
    (OwnFrom.and (Own.from (fun s A B row hs hg hr => ⟨hs.1, cell_kept hs.2.1 hg hr, (frozen_kept hs.2.1 hg hr).trans hs.2.2⟩) _) (ownFrom_below (Nat.le_refl _) (by omega)))
    (fun cc => OwnFrom.and (Own.from (fun s A B row hs hg hr => ⟨hs.1, hs.2.1, cell_kept hs.2.2 hg hr⟩) _) (ownFrom_below (Nat.le_refl _) (by omega)))
    ⟨⟨rfl, c1, f1⟩, hBW⟩
    (fun x => { tmps := #[.agg #[.slice A H.length c], .pointer (some ⟨w.heap.size, 0, none⟩), .pointer (some ⟨w.heap.size + 1, 0, none⟩), .bool x, .agg #[.slice A H.length c], .func (.func 190) #[] #[.pointer (some ⟨w.heap.size + 2, 0, none⟩)], .bool x, undef, undef], defers := [] }) ?assign ?body ?done ?stop
  case assign =>
    intro l x W K hK
    gi_wp2
    exact hK
  case body =>
    rintro l pre x W ⟨⟨hp, hcr, hfr⟩, hB⟩ _
    cases x with
    | false =>
      gi_wp2
      exact ⟨KeepsOthers.setCell _ _ _, ⟨rfl, by simp, World.cell?_setCell_same' _ _ _ (by rw [hcr]; rfl)⟩, hB.setCell (p := ⟨w.heap.size + 1, 0, none⟩) (by simp) _⟩
    | true =>
      gi_wp2
      exact ⟨KeepsOthers.refl _, KeepsAll.refl _ _, ⟨by rw [List.all_append, hp]; rfl, hcr, hfr⟩, hB⟩
  case done =>
    rintro D xs W hD rfl ⟨⟨hall, hcr, hfr⟩, hB⟩ hK
    have hall := hide hall
    gi_wp2
    have hK' := (KeepsOthers.setCell W ⟨w.heap.size + 1, 0, none⟩ (.bool true)).same D _ hK rfl
    refine ⟨by simp, .inl ⟨_, _, rfl, run_takeDeferred hK', ?_⟩⟩
    have hc5 := cell_kept (World.cell?_setCell_same' W ⟨w.heap.size + 1, 0, none⟩ (.bool true) (by rw [hcr]; rfl)) (grownBy_putObj' _ D (.deferred none)) (fun r e => by cases e; exact ⟨_, hK', rfl⟩)
    refine ⟨.bool true, ?_, by unfold rightH; rw [hall.out], (hB.setCell (p := ⟨w.heap.size + 1, 0, none⟩) (by simp) _).trans (belowK_b (w := w) (Nat.le_refl _) _ D _ _ (by omega) hK' rfl rfl)⟩
    simp [results, Tryz.f67, go_sem, hc5]
  case stop =>
    rintro D cc pre W hD hpre ⟨⟨rfl, hin, hcr⟩, hB⟩ hK
    have hf := hide (pre_false hpre hin)
    gi_wp2
    refine ⟨by simp, .inl ⟨_, _, rfl, run_takeDeferred hK, ?_⟩⟩
    have hc5 := cell_kept hcr (grownBy_putObj' _ D (.deferred none)) (fun r e => by cases e; exact ⟨_, hK, rfl⟩)
    refine ⟨.bool false, ?_, by unfold rightH; rw [hf.out], hB.trans (belowK_b (w := w) (Nat.le_refl _) W D _ _ (by omega) hK rfl rfl)⟩
    simp [results, Tryz.f67, go_sem, hc5]
end Go.Proofs.YtfhnamomiaekdaaGreatDoor

namespace Go.Inq
open Go Go.RowKit

theorem below_grown {B : Nat} {w0 w w' : World} {row : Option Nat} (hb : Below B w0 w) (hg : w.grownBy w' row) (hB : B ≤ w.heap.size) (hr : ∀ k, row = some k → B ≤ k) : Below B w0 w' :=
  hb.trans ⟨hg.os, hg.tape, hg.output, hg.size, fun k hk => hg.block k (Nat.lt_of_lt_of_le hk hB) (fun e => by have := hr k e.symm; omega)⟩

/-- append(s, x), the element a block that was just made. -/
theorem wpList_push {P : Program} {W : World} {ops : Array Oper} {rest : List Oper} {o : Oper} {a : Act} {Q : Exit → Act → World → Prop} {α : Type} {enc : α → List Value}
    (hgd : o.guard = none) (s x : Operand) (t : TypeId) (ho : o.op = .call { callee := .builtin .append, args := #[s, x], argTypes := #[t, t] })
    (base : Nat) (e : TypeId) (i : TypeInfo) (z : Value) (size bytes : Nat) (ht : P.underlying t = some (.slice e)) (hi : P.info? e = some i) (hz : i.zero = some z)
    (hsize : i.size = size) (hby : i.bytes = bytes) (hzs : z.cells.size = size) (hsz : 0 < size)
    (v : Value) (l : List α) (hs : a.eval s = v) (hown : W.ownsRow base e size v l.length (l.map enc).flatten) (hen : ∀ x, (enc x).length = size)
    (x0 : α) (cs : Array Value) (hcs : cs.toList = enc x0) (hx : a.eval x = .slice (some ⟨W.heap.size, 0, none⟩) 1 1)
    (h1 : ∀ x, ∀ u ∈ enc x, u.oneCell' = true) (h63 : l.length + 1 ≤ maxLen) (hbytes : (l.length + 1) * bytes ≤ 140737488355328) (hbase : base ≤ W.heap.size)
    (w0 : World) (B : Nat) (hB : B ≤ base) (hb : Below B w0 W)
    (h : ∀ v' w', w'.ownsRow base e size v' (l ++ [x0]).length ((l ++ [x0]).map enc).flatten → (W.alloc (.cells cs e)).grownBy w' v.ownBlock → Below B w0 w' → (v'.ownBlock = v.ownBlock ∨ v'.ownBlock = some (W.heap.size + 1)) → wpList P ops Q rest (a.put o.dst v') w') :
    wpList P ops Q (o :: rest) a (W.alloc (.cells cs e)) := by
  have hk : Blk (W.alloc (.cells cs e)) W.heap.size e cs := Blk.new _ _ _
  have hl : cs.size = size := by rw [← Array.length_toList, hcs, hen]
  refine wpList_append_flat (enc := enc) hgd s x t ho base e i z size bytes ht hi hz hsize hby hzs hsz v (fun _ => True) l hs (hown.alloc _) hen _ [x0] hx (SlR.one hk hl (by unfold Flat; exact hcs) trivial) h1 h63 hbytes (by simp; omega) ?_
  intro v' w' g1 g2 g3
  refine h v' w' g1 g2 (below_grown (hb.alloc (by omega) _) g2 (by simp; omega) ?_) (by simpa using g3)
  intro k hk
  have := (hown.lt k hk).1
  omega
end Go.Inq

namespace Go.Proofs.YtfhnamomiaekdaaGreatDoor
open Go.RowKit Go.Inq
set_option maxHeartbeats 1000000
attribute [local go_sem ↓] Go.wp_at_zero Go.wp_at_succ

def intsN (l : List Nat) : List Int := l.map fun (n : Nat) => (n : Int)
theorem intsN_snoc (l : List Nat) (x : Nat) : intsN (l ++ [x]) = intsN l ++ [(x : Int)] := by simp [intsN]
theorem intsN_len (l : List Nat) : (intsN l).length = l.length := by simp [intsN]
theorem intsN_at {l : List Nat} {i : Nat} (h : i < l.length) : (intsN l)[i]'(by rw [intsN_len]; exact h) = (l[i] : Int) := by simp [intsN]
theorem infoI10 : (Tryz.prog.info? 3).map (fun i => (i.zero, i.size, i.bytes)) = some (some (.int .i64 0), 1, 8) := by kernel_rfl
/-- A row of numbers of the call's own. -/
def OwnI (w : World) (base : Nat) (v : Value) (l : List Int) : Prop := w.ownsRow base 3 1 v l.length (l.map Go.Inq.encI).flatten
/-- What a call tells, where it is such a row. -/
def OutI (w : World) (l : List Int) (e : Ending) (w' : World) : Prop := ∃ v, e = .returned v ∧ OwnI w' w.heap.size v l ∧ Below w.heap.size w w'
theorem OwnI.form {w : World} {base : Nat} {v : Value} {l : List Int} (h : OwnI w base v l) : ∃ A c, v = .slice A l.length c := own_slice h
theorem OwnI.sl {w : World} {base : Nat} {v : Value} {l : List Int} (h : OwnI w base v l) {K : Nat → Prop} (hK : ∀ g, base ≤ g → g < w.heap.size → K g) : IntS w K v l := SlR.of_flat h rfl (fun _ => rfl) hK
theorem OwnI.nil (w : World) (base : Nat) : OwnI w base (.slice none 0 0) [] := World.ownsRow_nil _ _ _ _
/-- Below 2 to the power of 64. -/
def B64 (n : Nat) : Prop := n < 18446744073709551616
def restL (s y : Nat) (l : List Nat) : Prop := l ++ listB y = listB s
theorem restL_next {s y : Nat} {l : List Nat} (h : restL s y l) (h0 : y ≠ 0) (hy : y < 18446744073709551616) : restL s (y &&& (y - 1)) (l ++ [Lib.ctz 64 y]) := by
  unfold restL at h ⊢
  rw [← h, listB_next y h0 hy]; simp
theorem list10_any (s : Nat) (hs : s < 18446744073709551616) (w : World) (hT : TabB w) :
    Calls Tryz.prog 131 #[.int .u64 s] w (OutI w (intsN (listB s))) := by
  obtain ⟨ii, hii, hi1, hi2, hi3⟩ := info_parts infoI10
  go_enter Tryz.func131, Tryz.ntmps131
  go_wp2_with fail
  go_loopw [0, 3] (fun s0 s3 wr => ∃ (y : Nat) (l : List Nat), B64 y ∧ s0 = .int .u64 y ∧ Hid (restL s y l) ∧ OwnI wr w.heap.size s3 (intsN l) ∧ Below w.heap.size w wr) (fun s0 _ _ => (listB (intOf s0).toNat).length)
  case atStart => exact ⟨s, [], hs, rfl, (show [] ++ listB s = listB s from rfl), OwnI.nil _ _, Below.refl _ _⟩
  case round =>
    obtain ⟨y, l, hy, rfl, hr, hown, hb⟩ := hrel
    unfold B64 at hy
    by_cases h0 : y = 0
    · subst h0
      have he := hr.out
      unfold restL at he
      rw [listB_zero, List.append_nil] at he
      subst he
      go_wp2
      go_ret
      exact ⟨_, rfl, hown, hb⟩
    · have h0b : ((y : Int) != 0) = true := by simp; omega
      have hT2 := hT.below hb
      have hn := hide (restL_next hr.out h0 hy)
      have hlen : l.length + 1 ≤ 64 := by
        have h1 := congrArg List.length hr.out
        have h2 := congrArg List.length (listB_next y h0 hy)
        have h3 := listB_len s
        simp only [List.length_append, List.length_cons] at h1 h2
        omega
      have hand := u64_and_nat y (y - 1) hy (by omega)
      have hsub : IntKind.u64.wrap ((y : Int) - 1) = ((y - 1 : Nat) : Int) := by rw [IntKind.wrap_u64]; omega
      have hlt := hide (and_less y hy)
      have hms := hide (show (listB (y &&& (y - 1))).length < (listB y).length by rw [listB_next y h0 hy]; simp)
      generalize y &&& (y - 1) = z at *
      generalize y - 1 = y1 at *
      have hsz := hb.size
      obtain ⟨A, c, rfl⟩ := hown.form
      replace hown := hide hown
      replace hr := hide hr.out
      replace hy := hide hy
      clear h0 hs
      go_wp2_with (first | (go_at_call 192; refine (tz64_any y hy.out _ hT2).mono ?_; rintro e w' ⟨rfl, rfl⟩) | (at_builtin; refine wpList_push (enc := Go.Inq.encI) rfl (.tmp 10) (.tmp 13) 33 rfl w.heap.size 3 ii _ 1 8 Tryz.underlying33 hii hi1 hi2 hi3 rfl (by decide) (.slice A (intsN l).length c) (intsN l) rfl hown.out (fun _ => rfl) (Lib.ctz 64 y : Int) _ rfl rfl encI_one (by rw [intsN_len]; simp [maxLen]; omega) (by rw [intsN_len]; omega) hsz w w.heap.size (Nat.le_refl _) hb ?_; intro v1 w1 hown1 hg1 hb1 _))
      go_roundw
      case rel => exact ⟨z, l ++ [Lib.ctz 64 y], hlt.out, rfl, hn, by unfold OwnI; rw [intsN_snoc]; exact hown1, hb1⟩
      case measure =>
        simp only [intOf, Int.toNat_natCast]
        exact hms.out
end Go.Proofs.YtfhnamomiaekdaaGreatDoor

namespace Go.Inq
open Go Go.RowKit

theorem wpList_copy_whole {P : Program} {w : World} {ops : Array Oper} {rest : List Oper} {o : Oper} {a : Act} {Q : Exit → Act → World → Prop} {α : Type} (f : α → Value)
    (hgd : o.guard = none) (d s : Operand) (dT sT : TypeId) (ho : o.op = .call { callee := .builtin .copy, args := #[d, s], argTypes := #[dT, sT] })
    (elem : TypeId) (hu : P.underlying dT = some (.slice elem)) (hsz : (P.info? elem).map (·.size) = some 1)
    (g n dc c : Nat) (A : Option Addr) (hd : a.eval d = .slice (some ⟨g, 0, none⟩) n dc) (hs : a.eval s = .slice A n c)
    (cur : Array Value) (t : TypeId) (hg : Blk w g t cur) (hcur : cur.size = n) (l : List α) (hl : l.length = n)
    (hsrc : ∀ i (hi : i < l.length), ∃ b off, A = some ⟨b, off, none⟩ ∧ w.cell? ⟨b, off + i, none⟩ = some (f l[i])) (h1 : ∀ x ∈ l, (f x).oneCell' = true)
    (h : ∀ w', Blk w' g t (l.map f).toArray → w.grownBy w' (some g) → wpList P ops Q rest (a.put o.dst (goInt n)) w') : wpList P ops Q (o :: rest) a w := by
  by_cases h0 : n = 0
  · subst h0
    have : l = [] := List.eq_nil_of_length_eq_zero hl
    subst this
    have hc : cur = #[] := Array.eq_empty_of_size_eq_zero hcur
    subst hc
    exact wpList_copy_nothing hgd d s dT sT ho elem hu hsz _ _ 0 dc 0 c hd hs rfl (h w (by simpa using hg) ⟨rfl, rfl, rfl, Nat.le_refl _, fun _ _ _ => rfl⟩)
  · obtain ⟨b, off, rfl, _⟩ := hsrc 0 (by omega)
    have hcs : (l.map f).length = n := by simpa using hl
    refine wpList_copy_own hgd d s dT sT ho elem hu hsz g 0 n dc ⟨b, off, none⟩ n c hd hs cur t hg (l.map f) (by rw [hcs]; simp [Nat.min_def]) (fun j v hj => ?_) (by rw [hcs]; omega) (fun v hv => ?_) ?_
    · rw [List.getElem?_map] at hj
      cases hlj : l[j]? with
      | none => rw [hlj] at hj; cases hj
      | some x =>
        rw [hlj] at hj
        injection hj with hj
        obtain ⟨hjl, rfl⟩ := List.getElem?_eq_some_iff.1 hlj
        obtain ⟨b', off', hA, hc⟩ := hsrc j hjl
        injection hA with hA
        injection hA with e1 e2
        subst e1 e2
        rw [Addr.add_lit, ← hj]
        exact hc
    · obtain ⟨x, hx, rfl⟩ := List.mem_map.1 hv
      exact h1 x hx
    · rw [hcs]
      have e : (cur.toList.take 0 ++ (l.map f ++ cur.toList.drop (0 + n))).toArray = (l.map f).toArray := by
        rw [List.drop_of_length_le (by simp; omega)]; simp
      rw [e]
      exact h _ (setRow_heap w g cur _ t _ hg) ⟨rfl, rfl, rfl, by simp [World.setRow], fun k hk hne => setRow_other w g k _ (fun e => hne (by rw [e]))⟩

section
variable {w W : World} {o : Obj} {K : Nat → Prop}
theorem Blk.allocEq {g : Nat} {t : TypeId} {cs : Array Value} (h : Blk w g t cs) (e : w.alloc o = W) : Blk W g t cs := by subst e; exact h.alloc o
theorem Agree.allocEq (e : w.alloc o = W) (hk : ∀ b, K b → b < w.heap.size) : Agree K w W := by subst e; exact Agree.alloc hk o
theorem below_allocEq {B : Nat} {w0 : World} (h : Below B w0 w) (e : w.alloc o = W) (hB : B ≤ w.heap.size) : Below B w0 W := by subst e; exact h.alloc hB o
theorem Blk.newEq {t : TypeId} {cs : Array Value} (e : w.alloc (.cells cs t) = W) : Blk W w.heap.size t cs := by subst e; exact Blk.new _ _ _
theorem Blk.two1 {t : TypeId} {cs : Array Value} (e : (w.alloc (.cells cs t)).alloc o = W) : Blk W w.heap.size t cs := by subst e; exact (Blk.new _ _ _).alloc _
theorem Blk.two2 {t : TypeId} {cs : Array Value} (e : (w.alloc o).alloc (.cells cs t) = W) : Blk W (w.heap.size + 1) t cs := by
  subst e
  have := Blk.new (w.alloc o) t cs
  simpa using this
theorem size_two {o' : Obj} (e : (w.alloc o).alloc o' = W) : W.heap.size = w.heap.size + 2 := by subst e; simp
theorem below_two {o' : Obj} (e : (w.alloc o).alloc o' = W) : Below w.heap.size w W := by subst e; exact ((Below.refl _ _).alloc (Nat.le_refl _) _).alloc (by simp) _
theorem Blk.three1 {o' : Obj} {t : TypeId} {cs : Array Value} (e : ((w.alloc (.cells cs t)).alloc o).alloc o' = W) : Blk W w.heap.size t cs := by subst e; exact ((Blk.new _ _ _).alloc _).alloc _
theorem Blk.three2 {o' : Obj} {t : TypeId} {cs : Array Value} (e : ((w.alloc o).alloc (.cells cs t)).alloc o' = W) : Blk W (w.heap.size + 1) t cs := by
  subst e
  have := (Blk.new (w.alloc o) t cs).alloc o'
  simpa using this
theorem Blk.three3 {o' : Obj} {t : TypeId} {cs : Array Value} (e : ((w.alloc o).alloc o').alloc (.cells cs t) = W) : Blk W (w.heap.size + 1 + 1) t cs := by
  subst e
  have := Blk.new ((w.alloc o).alloc o') t cs
  simpa using this
theorem size_three {o' o'' : Obj} (e : ((w.alloc o).alloc o').alloc o'' = W) : W.heap.size = w.heap.size + 3 := by subst e; simp
theorem below_three {o' o'' : Obj} (e : ((w.alloc o).alloc o').alloc o'' = W) : Below w.heap.size w W := by subst e; exact (((Below.refl _ _).alloc (Nat.le_refl _) _).alloc (by simp) _).alloc (by simp; omega) _
theorem size_allocEq (e : w.alloc o = W) : W.heap.size = w.heap.size + 1 := by subst e; simp
end
theorem grown_trans {w w' w'' : World} {r : Option Nat} (h : w.grownBy w' r) (h' : w'.grownBy w'' r) : w.grownBy w'' r :=
  ⟨h'.os.trans h.os, h'.tape.trans h.tape, h'.output.trans h.output, Nat.le_trans h.size h'.size, fun k hk hne => (h'.block k (Nat.lt_of_lt_of_le hk h.size) hne).trans (h.block k hk hne)⟩
theorem grown_below {w w' : World} {B : Nat} {r : Option Nat} (hb : Below B w w') (hB : w.heap.size ≤ B) : w.grownBy w' r := ⟨hb.os, hb.tape, hb.output, hb.size, fun k hk _ => hb.block k (by omega)⟩
theorem grown_set {w : World} (g i : Nat) (u : Value) : w.grownBy (w.setCell ⟨g, i, none⟩ u) (some g) :=
  ⟨rfl, rfl, rfl, by simp, fun k hk hne => Below.heap_setCell w ⟨g, i, none⟩ u k (fun e => hne (by simp at e; rw [e]))⟩
theorem grown_drew {w : World} {r : Option Nat} : w.grownBy w.drew r := ⟨rfl, rfl, rfl, Nat.le_refl _, fun _ _ _ => rfl⟩
theorem grown_drewN {w : World} {r : Option Nat} (n : Nat) : w.grownBy (w.drewN n) r := ⟨rfl, rfl, rfl, Nat.le_refl _, fun _ _ _ => rfl⟩
theorem Agree.ofGrown {K : Nat → Prop} {w w' : World} {g : Nat} (h : w.grownBy w' (some g)) (hK : ∀ b, K b → b < g) (hg : g ≤ w.heap.size) : Agree K w w' := Agree.grown h fun b hb => ⟨by have := hK b hb; omega, by have := hK b hb; simp; omega⟩
end Go.Inq
