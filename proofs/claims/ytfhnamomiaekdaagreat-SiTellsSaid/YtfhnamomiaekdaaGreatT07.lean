/-
  Walks: layer 9: index.reads, an iterator over all that is read.
-/
import Derived.Maps.OwnIn
import Derived.Test.YtfhnamomiaekdaaGreatT05
import Derived.Test.YtfhnamomiaekdaaGreatT03
import Derived.Test.YtfhnamomiaekdaaGreatT06
set_option linter.unusedVariables false
set_option linter.unusedSimpArgs false
namespace Go.Proofs.YtfhnamomiaekdaaGreat
open Go.RowKit Go.Inq Go.Shelf
set_option maxHeartbeats 4000000
attribute [local go_sem] Oper.semAt_some
attribute [local go_sem ↓] Go.wp_at_zero Go.wp_at_succ

/-- All that is read, by whom. -/
def rowR (k : Nat) (l : List It) : List (Nat × It) := l.map fun r => (k, r)
def readsTo (H : List Txn) (k : Nat) : List (Nat × It) := ((List.range k).map fun t => rowR t (txnAt H t).reads).flatten
def readsL (H : List Txn) : List (Nat × It) := readsTo H H.length
theorem readsTo_step (H : List Txn) (k : Nat) : readsTo H (k + 1) = readsTo H k ++ rowR k (txnAt H k).reads := by
  unfold readsTo
  rw [List.range_succ, List.map_append, List.flatten_append]; simp
theorem readsTo_pre {H : List Txn} {k : Nat} (h : k ≤ H.length) : readsTo H k <+: readsL H := by
  unfold readsL readsTo
  obtain ⟨m, hm⟩ := Nat.le.dest h
  rw [← hm, List.range_add, List.map_append, List.flatten_append]
  exact List.prefix_append _ _
theorem rowR_take {k : Nat} {l : List It} {j : Nat} (h : j < l.length) : rowR k (l.take (j + 1)) = rowR k (l.take j) ++ [(k, l[j])] := by
  unfold rowR; rw [take_snoc' h, List.map_append]; rfl
theorem reads_pre {H : List Txn} {k j : Nat} (h : k < H.length) (hj : j < H[k].reads.length) : readsTo H k ++ rowR k (H[k].reads.take j) ++ [(k, H[k].reads[j])] <+: readsL H := by
  refine List.IsPrefix.trans ?_ (readsTo_pre (k := k + 1) (by omega))
  rw [readsTo_step, txnAt_of h, List.append_assoc, ← rowR_take hj]
  refine (List.prefix_append_right_inj _).2 ?_
  unfold rowR
  rw [List.map_take]
  exact List.take_prefix _ _
def encRd (x : Nat × It) : Value := .agg #[.int .i64 (x.1 : Nat), .int .i64 x.2.a, .int .i64 x.2.b]
end Go.Proofs.YtfhnamomiaekdaaGreat

namespace Go.Proofs.YtfhnamomiaekdaaGreat
open Go.RowKit Go.Inq Go.Shelf
set_option maxHeartbeats 4000000
attribute [local go_sem] Oper.semAt_some
attribute [local go_sem ↓] Go.wp_at_zero Go.wp_at_succ

theorem belowK_put {n₀ : Nat} {w : World} (hn : n₀ ≤ w.heap.size) (W : World) (l : Nat) (o o' : Obj) (hl : w.heap.size ≤ l) (_ : W.heap[l]? = some o) (_ : o.isCells = false) (_ : o.isWalk = false) : Below n₀ W (W.putObj l o') :=
  ⟨rfl, rfl, rfl, by simp, fun k hk => World.putObj_heap_other (by omega)⟩
/-- What is told of some reads. -/
def selR (key src : Int) (l : List (Nat × It)) : List Nat := (l.filter fun x => decide (x.2.a = key) && decide (x.2.b = src)).map (·.1)
theorem selR_snoc (key src : Int) (l : List (Nat × It)) (x : Nat × It) : selR key src (l ++ [x]) = selR key src l ++ (if decide (x.2.a = key) && decide (x.2.b = src) then [x.1] else []) := by
  unfold selR
  rw [List.filter_append, List.map_append]
  congr 1
  cases h : decide (x.2.a = key) && decide (x.2.b = src) <;> simp [List.filter_cons, h]
theorem selR_all (H : List Txn) (key src : Int) : selR key src (readsL H) = rdsL H key src := by
  unfold selR readsL readsTo rdsL
  rw [List.filter_flatten, List.map_flatten, List.map_map, List.map_map]
  congr 1
  refine List.map_congr_left fun t _ => ?_
  simp only [Function.comp_apply, rowR, List.filter_map, List.map_map]
  rfl
theorem readsTo_len {H : List Txn} (h : ∀ i (hi : i < H.length), H[i].reads.length ≤ 1000000) : ∀ k, k ≤ H.length → (readsTo H k).length ≤ k * 1000000
  | 0, _ => by simp [readsTo]
  | k + 1, hk => by
    rw [readsTo_step, List.length_append, txnAt_of (by omega)]
    have := readsTo_len h k (by omega)
    have := h k (by omega)
    simp only [rowR, List.length_map]
    omega
theorem readsL_len {H : List Txn} (hn : SmallH H) (hr : rightH H = true) : (readsL H).length ≤ 32000000 := by
  have h32 : H.length ≤ 32 := ((rightH_iff H).1 hr).1
  have := readsTo_len (fun i hi => (hn.2 _ (List.getElem_mem hi)).2) H.length (Nat.le_refl _)
  unfold readsL
  omega
theorem boxed_own {X Y : World} {row : Option Nat} {B : Nat} {t : TypeId} {v : Value} (hs : Boxed X B t v) (hg : X.grownBy Y row) (hrow : ∀ r, row = some r → ∃ o : Obj, X.heap[r]? = some o ∧ o.isCells = false) : Boxed Y B t v :=
  hs.kept hg (fun e' => by obtain ⟨o, ho, hc⟩ := hrow B e'.symm; rw [show X.heap[B]? = _ from hs] at ho; cases ho; cases hc)
theorem own_base {w : World} {base base' : Nat} {e : TypeId} {size n : Nat} {v : Value} {xs : List Value} (h : w.ownsRow base e size v n xs) (hb : base' ≤ base) : w.ownsRow base' e size v n xs := by
  refine ⟨h.1, ?_⟩
  rcases h.2 with h2 | ⟨g, cap, cur, hv, hg, r⟩
  · exact .inl h2
  · exact .inr ⟨g, cap, cur, hv, Nat.le_trans hb hg, r⟩
theorem wpListIn_push {F : Fence} {nF : Nat} {P : Program} {W : World} {ops : Array Oper} {rest : List Oper} {o : Oper} {a : Act} {Q : Exit → Act → World → Prop}
    (hgd : o.guard = none) (s x : Operand) (t : TypeId) (ho : o.op = .call { callee := .builtin .append, args := #[s, x], argTypes := #[t, t] })
    (base : Nat) (e : TypeId) (i : TypeInfo) (z : Value) (bytes : Nat) (ht : P.underlying t = some (.slice e)) (hi : P.info? e = some i) (hz : i.zero = some z)
    (hsize : i.size = 1) (hby : i.bytes = bytes) (hzs : z.cells.size = 1)
    (v : Value) (l : List Int) (hs : a.eval s = v) (hown : W.ownsRow base e 1 v l.length (l.map Go.Inq.encI).flatten)
    (x0 : Int) (hx : a.eval x = .slice (some ⟨W.heap.size, 0, none⟩) 1 1)
    (h63 : l.length + 1 ≤ maxLen) (hbytes : (l.length + 1) * bytes ≤ 140737488355328) (hbase : base ≤ W.heap.size)
    (h : ∀ v' w', w'.ownsRow base e 1 v' (l ++ [x0]).length ((l ++ [x0]).map Go.Inq.encI).flatten → (W.alloc (.cells #[.int .i64 x0] e)).grownBy w' v.ownBlock → (v'.ownBlock = v.ownBlock ∨ v'.ownBlock = some (W.heap.size + 1)) → wpListIn F nF P ops Q rest (a.put o.dst v') w') :
    wpListIn F nF P ops Q (o :: rest) a (W.alloc (.cells #[.int .i64 x0] e)) := by
  have hk : Blk (W.alloc (.cells #[.int .i64 x0] e)) W.heap.size e #[.int .i64 x0] := Blk.new _ _ _
  refine wpListIn_append_own_at _ hgd s x t ho base e i z 1 bytes ht hi hz hsize hby hzs (by decide) v l.length _ hs (hown.alloc _) ⟨W.heap.size, 0, none⟩ 1 1 [.int .i64 x0] hx rfl (fun j u hj => ?_) (by simp [Value.oneCell']) h63 hbytes (by simp; omega) ?_
  · cases j with
    | zero => injection hj with hj; subst hj; exact hk.cell 0
    | succ j => simp at hj
  · intro v' w' g1 g2 _ g3
    refine h v' w' ?_ g2 (by simpa using g3)
    rw [List.map_append, List.flatten_append, List.length_append]
    exact g1
end Go.Proofs.YtfhnamomiaekdaaGreat

namespace Go.Proofs.YtfhnamomiaekdaaGreat
open Go.RowKit Go.Inq Go.Shelf
set_option maxHeartbeats 4000000
attribute [local go_sem] Oper.semAt_some
attribute [local go_sem ↓] Go.wp_at_zero Go.wp_at_succ

theorem valuesI_any (A : Option Addr) (n c : Nat) (w : World) : Calls Tryz.prog 36 #[.slice A n c] w fun e w' => e = .returned (.func (.func 96) #[] #[.pointer (some ⟨w.heap.size, 0, none⟩)]) ∧ w' = w.alloc (.cells #[.slice A n c] 26) := by
  go_enter Tryz.func36, Tryz.ntmps36
  go_wp2
  go_ret
  exact ⟨rfl, rfl⟩
set_option maxRecDepth 100000 in
theorem valuesI_in (n : Nat) (hn : 1 ≤ n) (l Bh n₀ c : Nat) (A : Option Addr) (L : List Int) (hlen : L.length ≤ 1000000) (J Jx : List Int → World → Prop) (W : World)
    (hY : ∀ pre x W, J pre W → pre.length < L.length → YieldAt Fence.wide (n - 1) Tryz.prog l #[.int .i64 x] W fun e W' =>
      (e = .returned (.bool true) ∧ J (pre ++ [x]) W' ∧ Below n₀ W W') ∨ (e = .returned (.bool false) ∧ Jx (pre ++ [x]) W'))
    (hBh : W.cell? ⟨Bh, 0, none⟩ = some (.slice A L.length c)) (hT : IntS W (fun b => b < n₀) (.slice A L.length c) L) (h0 : J [] W) :
    CallsIn Fence.wide n Tryz.prog 96 #[.func (.yield l) #[] #[], .pointer (some ⟨Bh, 0, none⟩)] W fun e W' => (∃ v, e = .returned v) ∧
      ((∃ ys, ys = L ∧ J ys W') ∨ (∃ pre, pre <+: L ∧ Jx pre W')) := by
  have hro : Fence.wide.round = none := rfl
  refine callsIn_of_wp Tryz.func96 rfl trivial ?_ hro
  simp only [Tryz.ntmps96, List.size_toArray, List.length_cons, List.length_nil, Nat.reduceAdd, Nat.reduceSub, Array.replicate_succ, Array.replicate_zero, List.push_toArray, List.append_toArray, List.nil_append, List.cons_append]
  gi_wp2
  gi_loopw [7] (fun s7 wr => ∃ k : Nat, k ≤ L.length ∧ s7 = .int .i64 k ∧ J (L.take k) wr ∧ Below n₀ W wr) (fun s7 _ => L.length - (intOf s7).toNat)
  case atStart => exact ⟨0, Nat.zero_le _, by go_num, by simpa using h0, Below.refl _ _⟩
  case round =>
    obtain ⟨k, hk, rfl, hJs, hb⟩ := hrel
    have hk1 : (0 : Int) ≤ (k : Int) := Int.natCast_nonneg _
    by_cases hlt : k < L.length
    · have hi2 : (k : Int) < (L.length : Int) := by omega
      obtain ⟨b, off, rfl, hbK, d0'⟩ := hT.at_ hlt
      have d0 := (hb.cell (p := ⟨b, off + k, none⟩) hbK).trans d0'
      clear d0'
      obtain ⟨fn, tmps, assign, body, hy, hR⟩ := hY _ L[k] wr hJs (by rw [List.length_take]; omega)
      have hst := hide (take_snoc' hlt)
      have hpre := hide (List.take_prefix (k + 1) L)
      generalize L[k] = x at *
      gi_wp2
      refine hR.mono ?_
      clear hR hy fn tmps assign body
      rintro e W4 (⟨rfl, hJ5, hk5⟩ | ⟨rfl, hJx5⟩)
      · have hb5 := hb.trans hk5
        gi_wp2
        go_roundw
        case rel => exact ⟨k + 1, by omega, by go_num, by rw [hst.out]; exact hJ5, hb5⟩
        case measure => simp [intOf]; omega
      · gi_wp2
        refine bodyPost_ret (results_none rfl _ _ _) rfl ?_
        exact ⟨⟨_, rfl⟩, .inr ⟨_, by rw [← hst.out]; exact hpre.out, hJx5⟩⟩
    · obtain rfl : k = L.length := by omega
      rw [List.take_length] at hJs
      gi_wp2
      go_end0
      exact ⟨⟨_, rfl⟩, .inl ⟨_, rfl, hJs⟩⟩
theorem valuesI_stops (Bh n₀ c : Nat) (A : Option Addr) (L : List Int) (hlen : L.length ≤ 1000000) (w : World) (hBn : Bh < w.heap.size) (hnW : n₀ ≤ w.heap.size) (hc : w.cell? ⟨Bh, 0, none⟩ = some (.slice A L.length c)) (hT : IntS w (fun b => b < n₀) (.slice A L.length c) L) :
    SeqStopsK Fence.wide (3 - 1) Tryz.prog 96 #[.pointer (some ⟨Bh, 0, none⟩)] (fun x : Int => #[.int .i64 x]) (fun W W' => Below n₀ W W') (fun ys => ys = L) (fun pre => pre <+: L) L.length w := fun l J Jx W hW hJ _ hY h0 =>
  valuesI_in (3 - 1) (by omega) l Bh n₀ c A L hlen J Jx W hY ((hW.cell (p := ⟨Bh, 0, none⟩) hBn).trans hc) (IntS.keep hT (Agree.below hW fun b h => Nat.lt_of_lt_of_le h hnW) (fun b h => h)) h0
set_option maxRecDepth 100000 in
theorem appendSeqI_any (A : Option Addr) (Bv c : Nat) (L : List Int) (hlen : L.length ≤ 1000000) (w : World) (hv : w.cell? ⟨Bv, 0, none⟩ = some (.slice A L.length c)) (h : IntS w (Old w) (.slice A L.length c) L) :
    Calls Tryz.prog 154 #[.slice none 0 0, .func (.func 96) #[] #[.pointer (some ⟨Bv, 0, none⟩)]] w (OutI w L) := by
  refine (callsIn_wide (n := 3)).1 ?_
  have hro : Fence.wide.round = none := rfl
  refine callsIn_of_wp_marks Tryz.func154 rfl trivial ?_ hro
  simp only [Tryz.ntmps154, List.size_toArray, List.length_cons, List.length_nil, Nat.reduceAdd, Nat.reduceSub, Array.replicate_succ, Array.replicate_zero, List.push_toArray, List.append_toArray, List.nil_append, List.cons_append]
  have hBl : Bv < w.heap.size := block_lt_of_cell hv
  obtain ⟨ii, hii, hi1, hi2, hi3⟩ := info_parts infoI10
  obtain ⟨W0, hW0⟩ : ∃ W0, w.alloc (.cells #[.slice none 0 0] 26) = W0 := ⟨_, rfl⟩
  have hs0 := size_allocEq hW0
  have hBW := below_allocEq (Below.refl w.heap.size w) hW0 (Nat.le_refl _)
  have k3 := Blk.newEq hW0
  have c4 := (hBW.cell (p := ⟨Bv, 0, none⟩) hBl).trans hv
  have h2 : IntS W0 (fun b => b < w.heap.size) (.slice A L.length c) L := IntS.keep h (Agree.below hBW fun b h => h) (fun b h => h)
  gi_wp2
  clear hW0
  refine wpIn_rangeFunc_ownH hro (by omega) (gf := 96) (lb := #[.pointer (some ⟨Bv, 0, none⟩)]) rfl trivial (enters_of Tryz.func96 (by kernel_rfl) rfl)
    (valuesI_stops Bv w.heap.size c A L hlen W0 (by omega) (by omega) c4 h2) (fun h k => h.trans k) (belowK_put (by omega)) (Below.refl _ _) (fun _ => rfl)
    (fun (pre : List Int) W => ((∃ v, Boxed W w.heap.size 26 v ∧ W.ownsRow (w.heap.size + 1) 3 1 v pre.length (pre.map Go.Inq.encI).flatten ∧ True) ∧ (w.heap.size + 1 ≤ W.heap.size)) ∧ Below w.heap.size w W)
    (fun cc pre W => False)
    (OwnFrom.and (OwnFrom.and (Own.from (holdsRow_own (w.heap.size + 1) w.heap.size 26 3 1 (fun (pre : List Int) => pre.length) (fun (pre : List Int) => (pre.map Go.Inq.encI).flatten) (fun _ _ => True)) _) (Own.from (fun s A B row hs hg hr => Nat.le_trans hs hg.size) _)) (ownFrom_below (Nat.le_refl _) (by omega)))
    (fun cc s A B row hs hg hr => hs)
    ⟨⟨⟨.slice none 0 0, k3, World.ownsRow_nil _ _ _ _, trivial⟩, by omega⟩, hBW⟩
    (fun x a' W => a' = { tmps := #[.slice none 0 0, .func (.func 96) #[] #[.pointer (some ⟨Bv, 0, none⟩)], .pointer (some ⟨w.heap.size, 0, none⟩), undef, .slice none 0 0, .int .i64 x, .func (.func 96) #[] #[.pointer (some ⟨Bv, 0, none⟩)], .int .i64 x, undef, undef, undef, undef, undef], defers := [] })
    (fun x a' => Own.from (fun s A B row hs hg hr => hs) _) ?assign ?body ?done ?stop
  case assign =>
    rintro l pre x W K ⟨⟨⟨v, hv, hr, _⟩, hW5⟩, hB⟩ hK
    gi_wp2
    refine hK _ _ (KeepsOthers.refl _ |>.from _) (Below.refl _ _) ⟨⟨⟨v, hv, hr, trivial⟩, hW5⟩, hB⟩ rfl
  case body =>
    rintro l pre x a' W hl ⟨rl, hrl⟩ ⟨⟨⟨v, hv, hr, _⟩, hW5⟩, hB⟩ rfl hlen2
    have hl63 : pre.length + 1 ≤ maxLen := by simp [maxLen]; omega
    have hl64 : (pre.length + 1) * 8 ≤ 140737488355328 := by omega
    have g3 := hv.cell
    have f3 := hv.frozen
    obtain ⟨Av, cv, rfl⟩ := own_slice hr
    have hlo := hide (fun b hb => (hr.lt b hb).1)
    replace hr := hide hr
    obtain ⟨pq, hpq⟩ : ∃ pq, pre ++ [x] = pq := ⟨_, rfl⟩
    have hpq1 : pq.length = pre.length + 1 := by rw [← hpq]; simp
    rw [hpq]
    replace hpq := hide hpq
    replace hpq1 := hide hpq1
    gi_wp2_with (gi_at_builtin; refine wpListIn_push rfl (.tmp 8) (.tmp 10) 26 rfl (w.heap.size + 1) 3 ii _ 8 Tryz.underlying26 hii hi1 hi2 hi3 rfl (.slice Av pre.length cv) pre rfl hr.out x rfl hl63 hl64 hW5 ?_; rw [hpq.out]; intro v1 w6 hown1 hg1 hat1; obtain ⟨A1, c1, rfl⟩ := own_slice hown1; have hv1 := (hv.alloc (.cells #[.int .i64 x] 3)).kept hg1 (fun e => by have := hlo.out _ e.symm; omega); have g6 := hv1.cell; have f6 := hv1.frozen)
    have hz6 := hg1.size
    simp only [World.size_alloc] at hz6
    refine ⟨(((KeepsOthers.alloc W _).trans (KeepsOthers.of_grownBy hg1 fun j o ej hj => ?_)).trans (KeepsOthers.setCell _ _ _)).from _, ?_, ⟨⟨_, hv1.set _, hown1.kept (grownBy_setCell' w6 _ _) (.inr fun e => by have := (hown1.lt _ e).1; omega), trivial⟩, by simp; omega⟩, ?_⟩
    · rcases (hr.out.alloc (.cells #[.int .i64 x] 3)).2 with ⟨h1, _⟩ | ⟨g, cap, cur, h1, _, hgb, _⟩
      · rw [h1] at ej; simp [Value.ownBlock] at ej
      · rw [h1] at ej
        obtain rfl : g = j := by simpa [Value.ownBlock] using ej
        rw [hgb] at hj; cases hj; rfl
    · exact (((Below.refl w.heap.size W).alloc (by omega) _).grown hg1 (by simp; omega) (fun j ej => by have := hlo.out j ej; omega)).setCell (p := ⟨w.heap.size, 0, none⟩) (by simp) _
    · exact ((hB.alloc (by omega) _).grown hg1 (by simp; omega) (fun j ej => by have := hlo.out j ej; omega)).setCell (p := ⟨w.heap.size, 0, none⟩) (by simp) _
  case done =>
    rintro D xs W hD rfl ⟨⟨⟨v, hv, hr, _⟩, hW5⟩, hB⟩ hK
    have g1 := hv.cell
    obtain ⟨Av, cv, rfl⟩ := own_slice hr
    gi_wp2
    refine ⟨by simp, .inl ⟨_, _, rfl, run_takeDeferred hK, ?_⟩⟩
    refine ⟨.slice Av xs.length cv, ?_, _, rfl, ?_, hB.trans (belowK_b (w := w) (Nat.le_refl _) W D _ _ (by omega) hK rfl rfl)⟩
    · simp [results, Tryz.results154, go_sem]
    · unfold OwnI
      exact own_base (ownsRow_putObj hr _ hK rfl) (by omega)
  case stop =>
    rintro D cc pre W hD hpre hF hK
    exact hF.elim
theorem collectI_any (A : Option Addr) (Bv c : Nat) (L : List Int) (hlen : L.length ≤ 1000000) (w : World) (hv : w.cell? ⟨Bv, 0, none⟩ = some (.slice A L.length c)) (h : IntS w (Old w) (.slice A L.length c) L) :
    Calls Tryz.prog 94 #[.func (.func 96) #[] #[.pointer (some ⟨Bv, 0, none⟩)]] w (OutI w L) := by
  go_enter Tryz.func94, Tryz.ntmps94
  go_wp2_with fail
  refine (appendSeqI_any A Bv c L hlen w hv h).mono ?_
  rintro e w1 ⟨v, rfl, ho, hb⟩
  go_wp2
  go_ret
  exact ⟨v, rfl, ho, hb⟩
/-- slices.Sorted(slices.Values(l)): a row of the call's own, in order. -/
theorem sortedI_any (A : Option Addr) (Bv c : Nat) (L : List Int) (hlen : L.length ≤ 1000000) (w : World) (hv : w.cell? ⟨Bv, 0, none⟩ = some (.slice A L.length c)) (h : IntS w (Old w) (.slice A L.length c) L) :
    Calls Tryz.prog 35 #[.func (.func 96) #[] #[.pointer (some ⟨Bv, 0, none⟩)]] w (OutI w (L.mergeSort fun x y => decide (x ≤ y))) := by
  go_enter Tryz.func35, Tryz.ntmps35
  go_wp2_with fail
  refine (collectI_any A Bv c L hlen w hv h).mono ?_
  rintro e w1 ⟨v, rfl, ho, hb⟩
  obtain ⟨A1, c1, rfl⟩ := ho.form
  dsimp only
  go_wp2_with fail
  refine (sortI_any w.heap.size A1 c1 L w1 ho (by omega)).mono ?_
  rintro e w2 ⟨rfl, ho2, hb2⟩
  go_wp2
  go_ret
  have := ho2
  exact ⟨_, rfl, ho2, hb.trans hb2⟩
end Go.Proofs.YtfhnamomiaekdaaGreat

namespace Go.Inq

/-- Ways over nodes below k. -/
def cloTo (E : Edges) : Nat → Edges
  | 0 => E
  | k + 1 => fun x y => cloTo E k x y || (cloTo E k x k && cloTo E k k y)
/-- A way from x to y over l. -/
def wayB (E : Edges) (x : Nat) : List Nat → Nat → Bool
  | [], y => E x y
  | a :: l, y => E x a && wayB E a l y
theorem wayB_append {E : Edges} : ∀ {x : Nat} {a : List Nat} {k : Nat} {b : List Nat} {y : Nat}, wayB E x (a ++ k :: b) y = (wayB E x a k && wayB E k b y)
  | x, [], k, b, y => rfl
  | x, c :: a, k, b, y => by
    show (E x c && wayB E c (a ++ k :: b) y) = (E x c && wayB E c a k && wayB E k b y)
    rw [wayB_append, Bool.and_assoc]
theorem split_first {k : Nat} : ∀ {l : List Nat}, k ∈ l → ∃ a b, l = a ++ k :: b ∧ k ∉ a
  | [], h => by simp at h
  | c :: l, h => by
    by_cases e : c = k
    · exact ⟨[], l, by rw [e]; rfl, by simp⟩
    · have h2 : k ∈ l := by
        rw [List.mem_cons] at h
        exact h.resolve_left fun g => e g.symm
      obtain ⟨a, b, h3, h4⟩ := split_first h2
      exact ⟨c :: a, b, by rw [h3]; rfl, by simp; exact ⟨fun g => e g.symm, h4⟩⟩
theorem cloTo_way {E : Edges} : ∀ (k : Nat) (x y : Nat), cloTo E k x y = true → ∃ l : List Nat, (∀ a ∈ l, a < k) ∧ wayB E x l y = true
  | 0, x, y, h => ⟨[], by simp, h⟩
  | k + 1, x, y, h => by
    unfold cloTo at h
    rw [Bool.or_eq_true, Bool.and_eq_true] at h
    rcases h with h | ⟨h1, h2⟩
    · obtain ⟨l, hl, hw⟩ := cloTo_way k x y h
      exact ⟨l, fun a ha => by have := hl a ha; omega, hw⟩
    · obtain ⟨l1, hl1, hw1⟩ := cloTo_way k x k h1
      obtain ⟨l2, hl2, hw2⟩ := cloTo_way k k y h2
      refine ⟨l1 ++ k :: l2, fun a ha => ?_, by rw [wayB_append, hw1, hw2]; rfl⟩
      simp only [List.mem_append, List.mem_cons] at ha
      rcases ha with ha | rfl | ha
      · have := hl1 a ha; omega
      · omega
      · have := hl2 a ha; omega
theorem way_cloTo {E : Edges} : ∀ (k : Nat) (m : Nat) (l : List Nat) (x y : Nat), l.length ≤ m → (∀ a ∈ l, a < k) → wayB E x l y = true → cloTo E k x y = true := by
  intro k
  induction k with
  | zero =>
    intro m l x y _ hl hw
    cases l with
    | nil => exact hw
    | cons a l => exact absurd (hl a (by simp)) (by omega)
  | succ k ihk =>
    intro m
    induction m with
    | zero =>
      intro l x y hm hl hw
      obtain rfl : l = [] := List.eq_nil_of_length_eq_zero (by omega)
      unfold cloTo
      rw [ihk 0 [] x y (by simp) (by simp) hw]
      rfl
    | succ m ihm =>
      intro l x y hm hl hw
      by_cases hk : k ∈ l
      · obtain ⟨a, b, rfl, hka⟩ := split_first hk
        rw [wayB_append, Bool.and_eq_true] at hw
        have h1 := ihk a.length a x k (Nat.le_refl _) (fun c hc => by
          have := hl c (by simp [hc])
          have : c ≠ k := fun e => hka (e ▸ hc)
          omega) hw.1
        have h2 := ihm b k y (by simp at hm; omega) (fun c hc => hl c (by simp [hc])) hw.2
        unfold cloTo at h2 ⊢
        rw [Bool.or_eq_true, Bool.and_eq_true] at h2
        have h3 : cloTo E k k y = true := by rcases h2 with h | h; exact h; exact h.2
        rw [h1, h3]
        simp
      · unfold cloTo
        rw [ihk l.length l x y (Nat.le_refl _) (fun c hc => by
          have := hl c hc
          have : c ≠ k := fun e => hk (e ▸ hc)
          omega) hw]
        rfl
/-- All ways over n nodes. -/
def cloE (n : Nat) (E : Edges) : Edges := cloTo E n
theorem cloE_edge {n : Nat} {E : Edges} {x y : Nat} (h : E x y = true) : cloE n E x y = true := way_cloTo n 0 [] x y (by simp) (by simp) h
theorem cloE_trans {n : Nat} {E : Edges} {x y z : Nat} (hy : y < n) (h1 : cloE n E x y = true) (h2 : cloE n E y z = true) : cloE n E x z = true := by
  obtain ⟨a, ha, wa⟩ := cloTo_way n x y h1
  obtain ⟨b, hb, wb⟩ := cloTo_way n y z h2
  refine way_cloTo n _ (a ++ y :: b) x z (Nat.le_refl _) (fun c hc => ?_) (by rw [wayB_append, wa, wb]; rfl)
  simp only [List.mem_append, List.mem_cons] at hc
  rcases hc with hc | rfl | hc
  · exact ha c hc
  · exact hy
  · exact hb c hc
/-- What rises along each edge rises along each way. -/
theorem cloE_rank {n : Nat} {E : Edges} (f : Nat → Nat) (h : ∀ x y, x < n → y < n → E x y = true → f x < f y) : ∀ (l : List Nat) (x y : Nat), x < n → y < n → (∀ a ∈ l, a < n) → wayB E x l y = true → f x < f y
  | [], x, y, hx, hy, _, hw => h x y hx hy hw
  | a :: l, x, y, hx, hy, hl, hw => by
    have hw' : (E x a && wayB E a l y) = true := hw
    rw [Bool.and_eq_true] at hw'
    have ha := hl a (by simp)
    have h1 := h x a hx ha hw'.1
    have h2 := cloE_rank f h l a y ha hy (fun b hb => hl b (by simp [hb])) hw'.2
    omega
/-- Does some way lead back? -/
def cycB (n : Nat) (E : Edges) : Bool := (List.range n).any fun x => cloE n E x x
theorem cyc_rank {n : Nat} {E : Edges} (f : Nat → Nat) (h : ∀ x y, x < n → y < n → E x y = true → f x < f y) : cycB n E = false := by
  unfold cycB
  rw [List.any_eq_false]
  intro x hx hc
  obtain ⟨l, hl, hw⟩ := cloTo_way n x x hc
  have := cloE_rank f h l x x (List.mem_range.1 hx) (List.mem_range.1 hx) hl hw
  omega
end Go.Inq

namespace Go.Inq

theorem sub_len : ∀ (A B : List Nat), A.Nodup → (∀ x ∈ A, x ∈ B) → A.length ≤ B.length
  | [], _, _, _ => Nat.zero_le _
  | a :: A, B, hn, h => by
    rw [List.nodup_cons] at hn
    have h1 := sub_len A (B.erase a) hn.2 fun x hx => (List.mem_erase_of_ne (fun e : x = a => hn.1 (by rw [← e]; exact hx))).2 (h x (by simp [hx]))
    rw [List.length_erase_of_mem (h a (by simp))] at h1
    have := List.length_pos_of_mem (h a (by simp))
    simp
    omega
theorem nextT_spec {n : Nat} {E : Edges} {l : List Nat} {v : Nat} (h : nextT n E l = some v) : v < n ∧ v ∉ l ∧ ∀ x, x < n → E x v = true → x ∈ l := by
  unfold nextT at h
  have h1 := List.find?_some h
  have h2 := List.mem_of_find?_eq_some h
  simp only [Bool.and_eq_true, Bool.not_eq_true', List.all_eq_true, List.mem_range, Bool.or_eq_true, List.contains_iff_mem] at h1
  refine ⟨by simpa using h2, fun hv => ?_, fun x hx he => ?_⟩
  · have := h1.1
    rw [List.contains_iff_mem.2 hv] at this
    cases this
  · rcases h1.2 x hx with g | g
    · rw [he] at g; cases g
    · exact g
theorem nextT_stuck {n : Nat} {E : Edges} {l : List Nat} (h : nextT n E l = none) {v : Nat} (hv : v < n) (hl : v ∉ l) : ∃ x, x < n ∧ x ∉ l ∧ E x v = true := by
  unfold nextT at h
  rw [List.find?_eq_none] at h
  have h1 := h v (List.mem_range.2 hv)
  have hc : l.contains v = false := by
    rw [Bool.eq_false_iff]; intro e; exact hl (List.contains_iff_mem.1 e)
  rw [hc] at h1
  simp only [Bool.not_false, Bool.true_and, List.all_eq_true, List.mem_range, Classical.not_forall] at h1
  obtain ⟨x, hx, h2⟩ := h1
  simp only [Bool.or_eq_true, Bool.not_eq_true', List.contains_iff_mem, not_or] at h2
  exact ⟨x, hx, h2.2, by simpa using h2.1⟩
/-- What an order's beginning is. -/
structure TopoL (n : Nat) (E : Edges) (l : List Nat) : Prop where
  nd : l.Nodup
  lt : ∀ x ∈ l, x < n
  up : ∀ y ∈ l, ∀ x, x < n → E x y = true → x ∈ l ∧ l.idxOf x < l.idxOf y
theorem orderTo_topo {n : Nat} {E : Edges} : ∀ (k : Nat) (l : List Nat), orderTo n E k = some l → TopoL n E l
  | 0, l, h => by
    unfold orderTo at h
    injection h with h
    subst h
    exact ⟨List.nodup_nil, by simp, by simp⟩
  | k + 1, l, h => by
    unfold orderTo at h
    split at h
    · cases h
    · rename_i l0 h0
      split at h
      · cases h
      · rename_i v hv
        injection h with h
        subst h
        have ih := orderTo_topo k l0 h0
        obtain ⟨h1, h2, h3⟩ := nextT_spec hv
        refine ⟨?_, fun x hx => ?_, fun y hy x hx he => ?_⟩
        · rw [List.nodup_append]
          refine ⟨ih.nd, by simp, fun a ha b hb e => ?_⟩
          simp at hb
          subst hb
          exact h2 (e ▸ ha)
        · rw [List.mem_append, List.mem_singleton] at hx
          rcases hx with hx | rfl
          · exact ih.lt x hx
          · exact h1
        · rw [List.mem_append, List.mem_singleton] at hy
          rcases hy with hy | rfl
          · obtain ⟨g1, g2⟩ := ih.up y hy x hx he
            exact ⟨List.mem_append.2 (.inl g1), by rw [List.idxOf_append, List.idxOf_append, if_pos g1, if_pos hy]; exact g2⟩
          · have g1 := h3 x hx he
            refine ⟨List.mem_append.2 (.inl g1), ?_⟩
            rw [List.idxOf_append, List.idxOf_append, if_pos g1, if_neg h2]
            have := List.idxOf_lt_length_of_mem g1
            omega
theorem orderT_some_cyc {n : Nat} {E : Edges} {o : List Nat} (h : orderT n E = some o) : cycB n E = false := by
  have ht := orderTo_topo n o h
  have hl := orderTo_len h
  have hall : ∀ y, y < n → y ∈ o := fun y hy => by
    refine Classical.byContradiction fun hno => ?_
    have := sub_len (y :: o) (List.range n) (List.nodup_cons.2 ⟨hno, ht.nd⟩) (fun x hx => by
      rw [List.mem_cons] at hx
      rw [List.mem_range]
      rcases hx with rfl | hx
      · exact hy
      · exact ht.lt x hx)
    simp at this
    omega
  exact cyc_rank (fun x => o.idxOf x) fun x y hx hy he => (ht.up y (hall y hy) x hx he).2
/-- Where each of some has one of them ahead, some way leads back. -/
theorem back_cyc {n : Nat} {E : Edges} (R : Nat → Prop) (hR : ∀ v, R v → v < n) (hp : ∀ v, R v → ∃ x, R x ∧ E x v = true) : ∀ (m : Nat) (v : Nat), R v → ((List.range n).filter fun x => cloE n E x v).length ≤ m → cycB n E = true
  | m, v, hv, hm => by
    obtain ⟨x, hx, he⟩ := hp v hv
    by_cases hc : cloE n E x x = true
    · unfold cycB
      rw [List.any_eq_true]
      exact ⟨x, List.mem_range.2 (hR x hx), hc⟩
    · have hlt : ((List.range n).filter fun y => cloE n E y x).length + 1 ≤ ((List.range n).filter fun y => cloE n E y v).length := by
        have := sub_len (x :: (List.range n).filter fun y => cloE n E y x) ((List.range n).filter fun y => cloE n E y v) (List.nodup_cons.2 ⟨fun h => hc (List.mem_filter.1 h).2, List.Pairwise.filter _ List.nodup_range⟩) (fun y hy => by
          rw [List.mem_cons] at hy
          rw [List.mem_filter, List.mem_range]
          rcases hy with rfl | hy
          · exact ⟨hR y hx, cloE_edge he⟩
          · rw [List.mem_filter, List.mem_range] at hy
            exact ⟨hy.1, cloE_trans (hR x hx) hy.2 (cloE_edge he)⟩)
        simpa using this
      match m, hm with
      | 0, hm => omega
      | m + 1, hm => exact back_cyc R hR hp m x hx (by omega)
theorem orderTo_stuck {n : Nat} {E : Edges} : ∀ k, orderTo n E k = none → ∃ j l, j < k ∧ orderTo n E j = some l ∧ nextT n E l = none
  | 0, h => by unfold orderTo at h; cases h
  | k + 1, h => by
    unfold orderTo at h
    split at h
    · rename_i h0
      obtain ⟨j, l, h1, h2⟩ := orderTo_stuck k h0
      exact ⟨j, l, by omega, h2⟩
    · rename_i l0 h0
      split at h
      · rename_i hv
        exact ⟨k, l0, by omega, h0, hv⟩
      · cases h
theorem orderT_none_cyc {n : Nat} {E : Edges} (h : orderT n E = none) : cycB n E = true := by
  obtain ⟨j, l, hj, hl, hx⟩ := orderTo_stuck n h
  have ht := orderTo_topo j l hl
  have hlen := orderTo_len hl
  obtain ⟨v, hv, hvl⟩ : ∃ v, v < n ∧ v ∉ l := by
    refine Classical.byContradiction fun hno => ?_
    have := sub_len (List.range n) l List.nodup_range fun x hx => Classical.byContradiction fun hn => hno ⟨x, List.mem_range.1 hx, hn⟩
    simp at this
    omega
  refine back_cyc (fun u => u < n ∧ u ∉ l) (fun u hu => hu.1) (fun u hu => ?_) _ v ⟨hv, hvl⟩ (Nat.le_refl _)
  obtain ⟨x, h1, h2, h3⟩ := nextT_stuck hx hu.1 hu.2
  exact ⟨x, ⟨h1, h2⟩, h3⟩
/-- An order there is just if no way leads back. -/
theorem orderT_cyc (n : Nat) (E : Edges) : (orderT n E).isSome = !cycB n E := by
  cases h : orderT n E with
  | none => rw [orderT_none_cyc h]; rfl
  | some o => rw [orderT_some_cyc h]; rfl
end Go.Inq

namespace Go.Inq

theorem wwE_mono {l l' : List Cho} (h : ∀ c ∈ l, c ∈ l') {x y : Nat} (he : wwE l x y = true) : wwE l' x y = true := by
  unfold wwE at he ⊢
  rw [List.any_eq_true] at he ⊢
  obtain ⟨c, hc, h2⟩ := he
  exact ⟨c, h c hc, h2⟩
theorem rwE_mono {H : List Txn} {l l' : List Cho} (h : ∀ c ∈ l, c ∈ l') {x y : Nat} (he : rwE H l x y = true) : rwE H l' x y = true := by
  unfold rwE at he ⊢
  rw [Bool.or_eq_true] at he ⊢
  rcases he with he | he
  · exact .inl he
  · rw [List.any_eq_true] at he ⊢
    obtain ⟨c, hc, h2⟩ := he
    exact .inr ⟨c, h c hc, h2⟩
theorem fullE_mono {H : List Txn} {level : Int} {l l' : List Cho} (h : ∀ c ∈ l, c ∈ l') {x y : Nat} (he : fullE H level l x y = true) : fullE H level l' x y = true := by
  have hd : ∀ a b, orE (pastE H) (wwE l) a b = true → orE (pastE H) (wwE l') a b = true := fun a b g => by
    unfold orE at g ⊢
    rw [Bool.or_eq_true] at g ⊢
    exact g.imp id (wwE_mono h)
  show (orE (pastE H) (wwE l') x y || (if level = 1 then thenE H.length (orE (pastE H) (wwE l')) (rwE H l') else rwE H l') x y) = true
  have he' : (orE (pastE H) (wwE l) x y || (if level = 1 then thenE H.length (orE (pastE H) (wwE l)) (rwE H l) else rwE H l) x y) = true := he
  rw [Bool.or_eq_true] at he' ⊢
  rcases he' with g | g
  · exact .inl (hd x y g)
  · right
    by_cases hl : level = 1
    · rw [if_pos hl] at g ⊢
      unfold thenE at g ⊢
      rw [List.any_eq_true] at g ⊢
      obtain ⟨b, hb, h2⟩ := g
      rw [Bool.and_eq_true] at h2
      exact ⟨b, hb, by rw [hd x b h2.1, rwE_mono h h2.2]; rfl⟩
    · rw [if_neg hl] at g ⊢
      exact rwE_mono h g
theorem wayB_mono {E F : Edges} (h : ∀ x y, E x y = true → F x y = true) : ∀ (l : List Nat) (x y : Nat), wayB E x l y = true → wayB F x l y = true
  | [], x, y, hw => h x y hw
  | a :: l, x, y, hw => by
    have hw' : (E x a && wayB E a l y) = true := hw
    rw [Bool.and_eq_true] at hw'
    show (F x a && wayB F a l y) = true
    rw [h x a hw'.1, wayB_mono h l a y hw'.2]
    rfl
theorem cyc_mono {n : Nat} {E F : Edges} (h : ∀ x y, E x y = true → F x y = true) (hc : cycB n E = true) : cycB n F = true := by
  unfold cycB at hc ⊢
  rw [List.any_eq_true] at hc ⊢
  obtain ⟨x, hx, h2⟩ := hc
  obtain ⟨l, hl, hw⟩ := cloTo_way n x x h2
  exact ⟨x, hx, way_cloTo n l.length l x x (Nat.le_refl _) hl (wayB_mono h l x x hw)⟩
/-- Does nothing lead back? -/
def goodB (H : List Txn) (level : Int) (l : List Cho) : Bool := !cycB H.length (fullE H level l)
theorem good_less {H : List Txn} {level : Int} {l l' : List Cho} (h : ∀ c ∈ l, c ∈ l') (hg : goodB H level l' = true) : goodB H level l = true := by
  unfold goodB at hg ⊢
  rw [Bool.not_eq_true'] at hg ⊢
  rw [← Bool.not_eq_true] at hg ⊢
  exact fun hc => hg (cyc_mono (fun x y => fullE_mono h) hc)
theorem good_order (H : List Txn) (level : Int) (l : List Cho) : (orderT H.length (fullE H level l)).isSome = goodB H level l := orderT_cyc _ _
end Go.Inq

namespace Go.Proofs.YtfhnamomiaekdaaGreat
open Go.RowKit Go.Inq

theorem idxI_some {l : List Int} {x : Int} {i : Nat} (h : l.idxOf? x = some i) : idxI l x = i := by
  unfold idxI
  have : l.findIdx? (· == x) = some i := h
  rw [this]
theorem idxI_no {l : List Int} {x : Int} (h : l.idxOf? x = none) : idxI l x = -1 := by
  unfold idxI
  have : l.findIdx? (· == x) = none := h
  rw [this]
theorem turnC_none {path : List Int} {p : Cho} (h1 : idxI path p.a < 0) (h2 : idxI path p.b < 0) : turnC path p = none := by
  unfold turnC
  cases ha : path.idxOf? p.a with
  | some i => rw [idxI_some ha] at h1; omega
  | none =>
    cases hb : path.idxOf? p.b with
    | some i => rw [idxI_some hb] at h2; omega
    | none => rfl
theorem turnC_turn {path : List Int} {p : Cho} (h0 : ¬ (idxI path p.a < 0 ∧ idxI path p.b < 0)) (h : idxI path p.a < 0 ∨ (0 ≤ idxI path p.b ∧ idxI path p.b < idxI path p.a)) : turnC path p = some ⟨p.key, p.b, p.a⟩ := by
  unfold turnC
  cases ha : path.idxOf? p.a with
  | some i =>
    rw [idxI_some ha] at h h0
    cases hb : path.idxOf? p.b with
    | some j =>
      rw [idxI_some hb] at h h0
      dsimp only
      rw [if_pos (by omega)]
    | none => rw [idxI_no hb] at h; omega
  | none =>
    rw [idxI_no ha] at h h0
    cases hb : path.idxOf? p.b with
    | some j => rfl
    | none => rw [idxI_no hb] at h0; omega
theorem turnC_same {path : List Int} {p : Cho} (h : ¬ (idxI path p.a < 0 ∨ (0 ≤ idxI path p.b ∧ idxI path p.b < idxI path p.a))) : turnC path p = some p := by
  unfold turnC
  cases ha : path.idxOf? p.a with
  | some i =>
    rw [idxI_some ha] at h
    cases hb : path.idxOf? p.b with
    | some j =>
      rw [idxI_some hb] at h
      dsimp only
      rw [if_neg (by omega)]
    | none => rfl
  | none => rw [idxI_no ha] at h; omega
theorem dec_snoc (path : List Int) (l : List Cho) (x : Cho) : (l ++ [x]).filterMap (turnC path) = l.filterMap (turnC path) ++ (match turnC path x with | some y => [y] | none => []) := by
  rw [List.filterMap_append]
  congr 1
  cases h : turnC path x <;> simp [h]
end Go.Proofs.YtfhnamomiaekdaaGreat

namespace Go.Inq

/-- The pairs of the first i of some writers with all that stand behind. -/
def pairsI (key : Int) (l : List Nat) (i : Nat) : List Cho := ((List.range i).map fun a => (l.drop (a + 1)).map fun (b : Nat) => (⟨key, (l.getD a 0 : Nat), b⟩ : Cho)).flatten
theorem pairsI_step (key : Int) (l : List Nat) {i : Nat} (h : i < l.length) : pairsI key l (i + 1) = pairsI key l i ++ (l.drop (i + 1)).map fun (b : Nat) => (⟨key, (l[i] : Nat), b⟩ : Cho) := by
  unfold pairsI
  rw [List.range_succ, List.map_append, List.flatten_append]
  simp [List.getD_eq_getElem?_getD, List.getElem?_eq_getElem h]
theorem pairsI_cons (key : Int) (a : Nat) (r : List Nat) : ∀ i, pairsI key (a :: r) (i + 1) = (r.map fun (b : Nat) => (⟨key, a, b⟩ : Cho)) ++ pairsI key r i
  | 0 => by simp [pairsI, List.range_succ]
  | i + 1 => by
    have h1 : pairsI key (a :: r) (i + 1 + 1) = pairsI key (a :: r) (i + 1) ++ ((a :: r).drop (i + 1 + 1)).map fun (b : Nat) => (⟨key, ((a :: r).getD (i + 1) 0 : Nat), b⟩ : Cho) := by
      unfold pairsI; rw [List.range_succ, List.map_append, List.flatten_append]; simp
    have h2 : pairsI key r (i + 1) = pairsI key r i ++ (r.drop (i + 1)).map fun (b : Nat) => (⟨key, (r.getD i 0 : Nat), b⟩ : Cho) := by
      unfold pairsI; rw [List.range_succ, List.map_append, List.flatten_append]; simp
    rw [h1, h2, pairsI_cons key a r i]
    simp
theorem pairsI_all (key : Int) : ∀ l : List Nat, pairsI key l l.length = pairsK key l
  | [] => by simp [pairsI, pairsK]
  | a :: r => by rw [List.length_cons, pairsI_cons, pairsI_all key r]; rfl
/-- The pairs of the first k keys. -/
def pairsTo (H : List Txn) (k : Nat) : List Cho := (((keysL H).take k).map fun key => pairsK key (wrsL H key)).flatten
theorem pairsTo_step {H : List Txn} {k : Nat} (h : k < (keysL H).length) : pairsTo H (k + 1) = pairsTo H k ++ pairsK (keysL H)[k] (wrsL H (keysL H)[k]) := by
  unfold pairsTo
  rw [List.take_succ_eq_append_getElem h, List.map_append, List.flatten_append]; simp
theorem pairsTo_all (H : List Txn) : pairsTo H (keysL H).length = pairsL H := by unfold pairsTo pairsL; rw [List.take_length]
theorem pairsK_len (key : Int) : ∀ l : List Nat, (pairsK key l).length ≤ l.length * l.length
  | [] => by simp [pairsK]
  | a :: r => by
    unfold pairsK
    rw [List.length_append, List.length_map, List.length_cons]
    have := pairsK_len key r
    rw [Nat.add_mul, Nat.mul_add]
    omega
theorem pairsI_len (key : Int) (l : List Nat) : ∀ i, (pairsI key l i).length ≤ i * l.length
  | 0 => by simp [pairsI]
  | i + 1 => by
    have h1 : pairsI key l (i + 1) = pairsI key l i ++ (l.drop (i + 1)).map fun (b : Nat) => (⟨key, (l.getD i 0 : Nat), b⟩ : Cho) := by
      unfold pairsI; rw [List.range_succ, List.map_append, List.flatten_append]; simp
    rw [h1, List.length_append, List.length_map, List.length_drop, Nat.add_mul]
    have := pairsI_len key l i
    omega
theorem keysL_16len {H : List Txn} (hr : rightH H = true) : (keysL H).length ≤ 16 := by
  have hb : ∀ t ∈ H, ∀ k ∈ t.writes, 0 ≤ k ∧ k < 16 := fun t ht k hk => by
    obtain ⟨i, hi, rfl⟩ := List.getElem_of_mem ht
    exact (((rightH_iff H).1 hr).2 i hi).wkey k hk
  rw [keysL_16 hb, List.length_map]
  exact Nat.le_trans (List.length_filter_le _ _) (by simp)
theorem pairsTo_len {H : List Txn} (h32 : H.length ≤ 32) : ∀ k, k ≤ (keysL H).length → (pairsTo H k).length ≤ k * 1024
  | 0, _ => by simp [pairsTo]
  | k + 1, hk => by
    rw [pairsTo_step (by omega), List.length_append]
    have h1 := pairsTo_len h32 k (by omega)
    have h2 := pairsK_len (keysL H)[k] (wrsL H (keysL H)[k])
    have h3 := wrsL_len H (keysL H)[k]
    have h4 : (wrsL H (keysL H)[k]).length * (wrsL H (keysL H)[k]).length ≤ 32 * 32 := Nat.mul_le_mul (by omega) (by omega)
    omega
theorem pairsL_len {H : List Txn} (hr : rightH H = true) : (pairsL H).length ≤ 16384 := by
  have h1 := pairsTo_len ((rightH_iff H).1 hr).1 _ (Nat.le_refl _)
  rw [pairsTo_all] at h1
  have := keysL_16len hr
  omega
theorem pairsK_mem {key : Int} {c : Cho} : ∀ {l : List Nat}, c ∈ pairsK key l → c.key = key ∧ ∃ a b : Nat, c.a = a ∧ c.b = b ∧ a ∈ l ∧ b ∈ l
  | [], h => by simp [pairsK] at h
  | a :: r, h => by
    unfold pairsK at h
    rw [List.mem_append] at h
    rcases h with h | h
    · obtain ⟨b, hb, rfl⟩ := List.mem_map.1 h
      exact ⟨rfl, a, b, rfl, rfl, by simp, by simp [hb]⟩
    · obtain ⟨h1, x, y, h2, h3, h4, h5⟩ := pairsK_mem h
      exact ⟨h1, x, y, h2, h3, by simp [h4], by simp [h5]⟩
theorem pairsK_lt {key : Int} {c : Cho} : ∀ {l : List Nat}, l.Pairwise (· < ·) → c ∈ pairsK key l → c.a < c.b
  | [], _, h => by simp [pairsK] at h
  | a :: r, hp, h => by
    rw [List.pairwise_cons] at hp
    unfold pairsK at h
    rw [List.mem_append] at h
    rcases h with h | h
    · obtain ⟨b, hb, rfl⟩ := List.mem_map.1 h
      have := hp.1 b hb
      show (a : Int) < (b : Int)
      omega
    · exact pairsK_lt hp.2 h
/-- What a pair is. -/
theorem pairsL_mem {H : List Txn} {c : Cho} (h : c ∈ pairsL H) : ∃ a b : Nat, c.a = a ∧ c.b = b ∧ a < b ∧ b < H.length ∧ c.key ∈ (txnAt H a).writes ∧ c.key ∈ (txnAt H b).writes := by
  unfold pairsL at h
  obtain ⟨l, hl, hc⟩ := List.mem_flatten.1 h
  obtain ⟨key, _, rfl⟩ := List.mem_map.1 hl
  obtain ⟨hk, a, b, ha, hb, h1, h2⟩ := pairsK_mem hc
  have hlt := pairsK_lt (wrsL_rise H key) hc
  obtain ⟨_, h3⟩ := wrsL_mem.1 h1
  obtain ⟨h4, h5⟩ := wrsL_mem.1 h2
  rw [hk]
  exact ⟨a, b, ha, hb, by omega, h4, h3, h5⟩
/-- Does a transaction, whatever its number, write a key? -/
def wrB (H : List Txn) (t key : Int) : Bool := decide (0 ≤ t) && decide (t < (H.length : Int)) && (txnAt H t.toNat).writes.contains key
/-- May a choice be? -/
def oneB (H : List Txn) (c : Cho) : Bool := decide (c.a ≠ c.b) && wrB H c.a c.key && wrB H c.b c.key
def rightC (H : List Txn) (l : List Cho) : Bool := rightH H && decide (l.length ≤ 20000) && l.all (oneB H)
theorem wrB_nat {H : List Txn} {t : Nat} {key : Int} (h : t < H.length) : wrB H (t : Int) key = (txnAt H t).writes.contains key := by unfold wrB; simp [h]
theorem wrB_iff {H : List Txn} {t key : Int} : wrB H t key = true ↔ ∃ n : Nat, t = n ∧ n < H.length ∧ key ∈ (txnAt H n).writes := by
  unfold wrB
  constructor
  · intro h
    simp only [Bool.and_eq_true, decide_eq_true_eq, List.contains_iff_mem] at h
    exact ⟨t.toNat, by omega, by omega, h.2⟩
  · rintro ⟨n, rfl, h1, h2⟩
    simp [h1, h2]
theorem oneB_iff {H : List Txn} {c : Cho} : oneB H c = true ↔ ∃ a b : Nat, c.a = a ∧ c.b = b ∧ a ≠ b ∧ a < H.length ∧ b < H.length ∧ c.key ∈ (txnAt H a).writes ∧ c.key ∈ (txnAt H b).writes := by
  unfold oneB
  rw [Bool.and_eq_true, Bool.and_eq_true, wrB_iff, wrB_iff]
  constructor
  · rintro ⟨⟨h1, a, ha, h2, h3⟩, b, hb, h4, h5⟩
    have := of_decide_eq_true h1
    exact ⟨a, b, ha, hb, by omega, h2, h4, h3, h5⟩
  · rintro ⟨a, b, ha, hb, h1, h2, h3, h4, h5⟩
    exact ⟨⟨decide_eq_true (by omega), a, ha, h2, h4⟩, b, hb, h3, h5⟩
theorem pairs_one {H : List Txn} {c : Cho} (h : c ∈ pairsL H) : oneB H c = true := by
  obtain ⟨a, b, ha, hb, h1, h2, h3, h4⟩ := pairsL_mem h
  exact oneB_iff.2 ⟨a, b, ha, hb, by omega, by omega, h2, h3, h4⟩
def turnB (c : Cho) : Cho := ⟨c.key, c.b, c.a⟩
theorem turn_one {H : List Txn} {c : Cho} (h : oneB H c = true) : oneB H (turnB c) = true := by
  obtain ⟨a, b, ha, hb, h1, h2, h3, h4, h5⟩ := oneB_iff.1 h
  exact oneB_iff.2 ⟨b, a, hb, ha, h1.symm, h3, h2, h5, h4⟩
end Go.Inq

namespace Go.Proofs.YtfhnamomiaekdaaGreat
open Go.RowKit Go.Inq

theorem idxI_first {l : List Int} {x : Int} {k : Nat} (hk : k < l.length) (h0 : (l.take k).contains x = false) (h : l[k] = x) : idxI l x = k := by
  refine idxI_some ?_
  rw [List.idxOf?, List.findIdx?_eq_some_iff_getElem]
  refine ⟨hk, by simpa using h, fun j hj => ?_⟩
  rw [beq_iff_eq]
  intro e
  have : (l.take k).contains x = true := by
    rw [List.contains_iff_mem]
    exact List.mem_take_iff_getElem.2 ⟨j, by omega, e⟩
  rw [h0] at this
  cases this
theorem idxI_miss {l : List Int} {x : Int} (h0 : l.contains x = false) : idxI l x = -1 := by
  refine idxI_no ?_
  rw [List.idxOf?, List.findIdx?_eq_none_iff]
  intro y hy
  rw [beq_eq_false_iff_ne]
  rintro rfl
  rw [Bool.eq_false_iff] at h0
  exact h0 (List.contains_iff_mem.2 hy)
theorem idxI_neg {l : List Int} {x : Int} : idxI l x < 0 ↔ l.contains x = false := by
  constructor
  · intro h
    rw [Bool.eq_false_iff]
    intro hc
    obtain ⟨k, hk⟩ : ∃ k, l.idxOf? x = some k := by
      cases e : l.idxOf? x with
      | some k => exact ⟨k, rfl⟩
      | none =>
        rw [List.idxOf?, List.findIdx?_eq_none_iff] at e
        have := e x (List.contains_iff_mem.1 hc)
        simp at this
    rw [idxI_some hk] at h
    omega
  · intro h; rw [idxI_miss h]; decide
theorem idxI_ge {l : List Int} {x : Int} (h : l.contains x = true) : 0 ≤ idxI l x := by
  rcases Int.lt_or_le (idxI l x) 0 with g | g
  · rw [idxI_neg, h] at g; cases g
  · exact g
/-- Are numbers those of n things, each once? -/
def permB (l : List Int) (n : Nat) : Bool := decide (l.length = n) && (List.range n).all fun i => l.contains (i : Int)
/-- A pair, as an order has it. -/
def ofC (order : List Int) (p : Cho) : Cho := if idxI order p.a > idxI order p.b then ⟨p.key, p.b, p.a⟩ else p
def ofL (H : List Txn) (order : List Int) : List Cho := (pairsL H).map (ofC order)
theorem fmC_congr {α β : Type} {f g : α → Option β} : ∀ {l : List α}, (∀ x ∈ l, f x = g x) → l.filterMap f = l.filterMap g
  | [], _ => rfl
  | x :: l, h => by
    rw [List.filterMap_cons, List.filterMap_cons, h x (by simp), fmC_congr fun y hy => h y (by simp [hy])]
theorem ofL_dec {H : List Txn} {order : List Int} (h : permB order H.length = true) : ofL H order = decW H order := by
  unfold ofL decW
  rw [← List.filterMap_eq_map]
  refine fmC_congr fun p hp => ?_
  obtain ⟨a, b, ha, hb, hab, hbn, -, -⟩ := pairsL_mem hp
  unfold permB at h
  rw [Bool.and_eq_true, List.all_eq_true] at h
  have h1 := h.2 a (List.mem_range.2 (by omega))
  have h2 := h.2 b (List.mem_range.2 hbn)
  rw [← ha] at h1
  rw [← hb] at h2
  have g1 := idxI_ge h1
  have g2 := idxI_ge h2
  unfold turnC ofC
  show some (if _ then _ else _) = _
  cases e1 : order.idxOf? p.a with
  | none => rw [idxI_no e1] at g1; omega
  | some i =>
    cases e2 : order.idxOf? p.b with
    | none => rw [idxI_no e2] at g2; omega
    | some j =>
      rw [idxI_some e1, idxI_some e2]
      dsimp only
      by_cases hij : j < i
      · rw [if_pos (by omega), if_pos hij]
      · rw [if_neg (by omega), if_neg hij]
end Go.Proofs.YtfhnamomiaekdaaGreat

namespace Go.Proofs.YtfhnamomiaekdaaGreat
open Go.RowKit Go.Inq

/-- The first among some numbers that is one of a pair. -/
def scanC (p : Cho) : List Int → Option Cho
  | [] => none
  | x :: r => if x = p.a then some p else if x = p.b then some ⟨p.key, p.b, p.a⟩ else scanC p r
theorem scanC_turn (p : Cho) : ∀ l : List Int, turnC l p = scanC p l
  | [] => by simp [turnC, scanC]
  | x :: r => by
    have ih := scanC_turn p r
    unfold scanC
    rw [← ih]
    unfold turnC
    rw [List.idxOf?_cons, List.idxOf?_cons]
    by_cases h1 : x = p.a
    · subst h1
      simp only [beq_self_eq_true, if_true]
      by_cases h2 : p.a = p.b
      · simp [h2]
      · have : (p.a == p.b) = false := by simpa using h2
        rw [this]
        cases List.idxOf? p.b r <;> simp
    · have e1 : (x == p.a) = false := by simpa using h1
      rw [e1]
      by_cases h2 : x = p.b
      · subst h2
        simp only [beq_self_eq_true, if_true]
        rw [if_neg h1]
        cases List.idxOf? p.a r <;> simp
      · have e2 : (x == p.b) = false := by simpa using h2
        rw [e2, if_neg h1, if_neg h2]
        cases List.idxOf? p.a r <;> cases List.idxOf? p.b r <;> simp
theorem scan_a {p : Cho} {l : List Int} {k : Nat} (hk : k < l.length) (h : l[k] = p.a) : scanC p (l.drop k) = some p := by
  rw [List.drop_eq_getElem_cons hk]; simp [scanC, h]
theorem scan_b {p : Cho} {l : List Int} {k : Nat} (hk : k < l.length) (h1 : l[k] ≠ p.a) (h : l[k] = p.b) : scanC p (l.drop k) = some ⟨p.key, p.b, p.a⟩ := by
  rw [List.drop_eq_getElem_cons hk]
  unfold scanC
  rw [if_neg h1, if_pos h]
theorem scan_no {p : Cho} {l : List Int} {k : Nat} (hk : k < l.length) (h1 : l[k] ≠ p.a) (h : l[k] ≠ p.b) : scanC p (l.drop k) = scanC p (l.drop (k + 1)) := by
  rw [List.drop_eq_getElem_cons hk]
  conv => lhs; unfold scanC
  rw [if_neg h1, if_neg h]
end Go.Proofs.YtfhnamomiaekdaaGreat

namespace Go.Proofs.YtfhnamomiaekdaaGreat
open Go.RowKit Go.Inq

theorem scanC_append {p d : Cho} : ∀ {a b : List Int}, scanC p a = some d → scanC p (a ++ b) = some d
  | [], b, h => by simp [scanC] at h
  | x :: a, b, h => by
    show scanC p (x :: (a ++ b)) = some d
    unfold scanC at h ⊢
    by_cases h1 : x = p.a
    · rw [if_pos h1] at h ⊢; exact h
    · rw [if_neg h1] at h ⊢
      by_cases h2 : x = p.b
      · rw [if_pos h2] at h ⊢; exact h
      · rw [if_neg h2] at h ⊢; exact scanC_append h
theorem dec_append {H : List Txn} {a b : List Int} : ∀ c ∈ decW H a, c ∈ decW H (a ++ b) := by
  intro c hc
  unfold decW at hc ⊢
  rw [List.mem_filterMap] at hc ⊢
  obtain ⟨q, h1, h2⟩ := hc
  rw [scanC_turn] at h2
  exact ⟨q, h1, by rw [scanC_turn]; exact scanC_append h2⟩
/-- The beginnings of a good order are good. -/
theorem good_prefix {H : List Txn} {level : Int} {a b : List Int} (h : goodB H level (decW H (a ++ b)) = true) : goodB H level (decW H a) = true := good_less dec_append h
theorem order_good {H : List Txn} {level : Int} {a : List Int} : (orderT H.length (fullE H level (decW H a))).isSome = goodB H level (decW H a) := good_order _ _ _
end Go.Proofs.YtfhnamomiaekdaaGreat

namespace Go.Proofs.YtfhnamomiaekdaaGreat
open Go.RowKit Go.Inq

/-- Each pair, one way or the other. -/
def allW : List Cho → List Cho → Prop
  | [], [] => True
  | p :: P, c :: C => (c = p ∨ c = turnB p) ∧ allW P C
  | _, _ => False
theorem allW_map {f : Cho → Cho} : ∀ {P : List Cho}, (∀ p ∈ P, f p = p ∨ f p = turnB p) → allW P (P.map f)
  | [], _ => trivial
  | p :: P, h => ⟨h p (by simp), allW_map fun q hq => h q (by simp [hq])⟩
theorem allW_mem : ∀ {P C : List Cho}, allW P C → ∀ c ∈ C, ∃ p ∈ P, c = p ∨ c = turnB p
  | [], [], _, c, hc => by cases hc
  | [], _ :: _, h, _, _ => h.elim
  | _ :: _, [], h, _, _ => h.elim
  | p :: P, d :: C, h, c, hc => by
    rw [List.mem_cons] at hc
    rcases hc with rfl | hc
    · exact ⟨p, by simp, h.1⟩
    · obtain ⟨q, hq, e⟩ := allW_mem h.2 c hc
      exact ⟨q, by simp [hq], e⟩
theorem allW_has : ∀ {P C : List Cho}, allW P C → ∀ p ∈ P, p ∈ C ∨ turnB p ∈ C
  | [], [], _, c, hc => by cases hc
  | [], _ :: _, h, _, _ => h.elim
  | _ :: _, [], h, _, _ => h.elim
  | p :: P, d :: C, h, c, hc => by
    rw [List.mem_cons] at hc
    rcases hc with rfl | hc
    · rcases h.1 with e | e
      · exact .inl (by rw [← e]; simp)
      · exact .inr (by rw [← e]; simp)
    · rcases allW_has h.2 c hc with e | e
      · exact .inl (by simp [e])
      · exact .inr (by simp [e])
theorem allW_len : ∀ {P C : List Cho}, allW P C → P.length = C.length
  | [], [], _ => rfl
  | [], _ :: _, h => h.elim
  | _ :: _, [], h => h.elim
  | p :: P, d :: C, h => by rw [List.length_cons, List.length_cons, allW_len h.2]

/-- All ways to choose pairs behind some choices, till nothing leads back. -/
def someB (H : List Txn) (level : Int) : List Cho → List Cho → Bool
  | [], l => goodB H level l
  | c :: P, l => someB H level P (l ++ [c]) || someB H level P (l ++ [turnB c])
def hasB (H : List Txn) (level : Int) : Bool := someB H level (pairsL H) []
theorem someB_iff {H : List Txn} {level : Int} : ∀ {P l : List Cho}, someB H level P l = true ↔ ∃ m, allW P m ∧ goodB H level (l ++ m) = true
  | [], l => by
    unfold someB
    constructor
    · intro h; exact ⟨[], trivial, by rw [List.append_nil]; exact h⟩
    · rintro ⟨m, hm, h⟩
      match m, hm with
      | [], _ => rw [List.append_nil] at h; exact h
      | _ :: _, hm => exact hm.elim
  | c :: P, l => by
    unfold someB
    rw [Bool.or_eq_true, someB_iff, someB_iff]
    constructor
    · rintro (⟨m, hm, h⟩ | ⟨m, hm, h⟩)
      · exact ⟨c :: m, ⟨.inl rfl, hm⟩, by rw [List.append_assoc] at h; exact h⟩
      · exact ⟨turnB c :: m, ⟨.inr rfl, hm⟩, by rw [List.append_assoc] at h; exact h⟩
    · rintro ⟨m, hm, h⟩
      match m, hm with
      | [], hm => exact hm.elim
      | d :: m, hm =>
        rcases hm.1 with rfl | rfl
        · exact .inl ⟨m, hm.2, by rw [List.append_assoc]; exact h⟩
        · exact .inr ⟨m, hm.2, by rw [List.append_assoc]; exact h⟩
theorem hasB_iff {H : List Txn} {level : Int} : hasB H level = true ↔ ∃ m, allW (pairsL H) m ∧ goodB H level m = true := by
  unfold hasB; rw [someB_iff]; simp
end Go.Proofs.YtfhnamomiaekdaaGreat

namespace Go.Proofs.YtfhnamomiaekdaaGreat
open Go.RowKit Go.Inq

theorem perm_miss {l : List Int} {n j : Nat} (h : permB l n = true) (hj : j < l.length) (hm : ∀ k, k < n → ∃ i, ∃ hi : i < l.length, i ≠ j ∧ l[i] = (k : Int)) : False := by
  unfold permB at h
  rw [Bool.and_eq_true] at h
  have hl := of_decide_eq_true h.1
  have := sub_len (List.range n) ((l.eraseIdx j).map Int.toNat) List.nodup_range fun k hk => by
    obtain ⟨i, hi, hij, e⟩ := hm k (List.mem_range.1 hk)
    exact List.mem_map.2 ⟨l[i], List.mem_eraseIdx_iff_getElem.2 ⟨i, hi, hij, rfl⟩, by rw [e]; simp⟩
  simp [List.length_eraseIdx, hj] at this
  omega
theorem perm_has {l : List Int} {n k : Nat} (h : permB l n = true) (hk : k < n) : (k : Int) ∈ l := by
  unfold permB at h
  rw [Bool.and_eq_true, List.all_eq_true] at h
  exact List.contains_iff_mem.1 (h.2 k (List.mem_range.2 hk))
theorem perm_len {l : List Int} {n : Nat} (h : permB l n = true) : l.length = n := by
  unfold permB at h
  rw [Bool.and_eq_true] at h
  exact of_decide_eq_true h.1
theorem perm_bd {l : List Int} {n j : Nat} (h : permB l n = true) (hj : j < l.length) : 0 ≤ l[j] ∧ l[j] < (n : Int) := by
  refine Classical.byContradiction fun hno => perm_miss h hj fun k hk => ?_
  obtain ⟨i, hi, e⟩ := List.getElem_of_mem (perm_has h hk)
  refine ⟨i, hi, ?_, e⟩
  rintro rfl
  omega
theorem perm_ne {l : List Int} {n i j : Nat} (h : permB l n = true) (hij : i < j) (hj : j < l.length) : l[i]'(by omega) ≠ l[j] := by
  intro he
  refine perm_miss h hj fun k hk => ?_
  obtain ⟨m, hm, e⟩ := List.getElem_of_mem (perm_has h hk)
  by_cases hmj : m = j
  · subst hmj
    exact ⟨i, by omega, by omega, by rw [he]; exact e⟩
  · exact ⟨m, hm, hmj, e⟩
theorem perm_nodup {l : List Int} {n : Nat} (h : permB l n = true) : l.Nodup := by
  rw [List.nodup_iff_pairwise_ne, List.pairwise_iff_getElem]
  intro i j hi hj hij
  exact perm_ne h hij hj
theorem perm_nd {l : List Int} {n : Nat} (hl : l.length = n) (hd : l.Nodup) (hb : ∀ x ∈ l, 0 ≤ x ∧ x < (n : Int)) : permB l n = true := by
  unfold permB
  rw [decide_eq_true hl, Bool.true_and, List.all_eq_true]
  intro k hk
  have hk := List.mem_range.1 hk
  rw [List.contains_iff_mem]
  refine Classical.byContradiction fun hno => ?_
  have hnd : (l.map Int.toNat).Nodup := by
    rw [List.nodup_iff_pairwise_ne, List.pairwise_map]
    exact (List.nodup_iff_pairwise_ne.1 hd).imp_of_mem fun ha hb' hne e => hne (by have := hb _ ha; have := hb _ hb'; omega)
  have := sub_len (k :: l.map Int.toNat) (List.range n) (List.nodup_cons.2 ⟨fun hm => by
      obtain ⟨y, hy, e⟩ := List.mem_map.1 hm
      have := hb y hy
      exact hno (by rw [show (k : Int) = y by omega]; exact hy), hnd⟩) fun x hx => by
    rw [List.mem_cons] at hx
    rw [List.mem_range]
    rcases hx with rfl | hx
    · exact hk
    · obtain ⟨y, hy, rfl⟩ := List.mem_map.1 hx
      have := hb y hy
      omega
  simp at this
  omega

/-- An order's choices are a way to choose all pairs. -/
theorem dec_all {H : List Txn} {π : List Int} (h : permB π H.length = true) : allW (pairsL H) (decW H π) := by
  rw [← ofL_dec h]
  unfold ofL
  refine allW_map fun p _ => ?_
  unfold ofC
  split
  · exact .inr rfl
  · exact .inl rfl
theorem has_of_dec {H : List Txn} {level : Int} {π : List Int} (h : permB π H.length = true) (hg : goodB H level (decW H π) = true) : hasB H level = true := hasB_iff.2 ⟨_, dec_all h, hg⟩

/-- An order of nodes, all of them. -/
structure TopoN (n : Nat) (E : Edges) (o : List Nat) : Prop where
  t : TopoL n E o
  len : o.length = n
  all : ∀ y, y < n → y ∈ o
theorem topoN_order {n : Nat} {E : Edges} {o : List Nat} (ho : orderT n E = some o) : TopoN n E o := by
  have ht := orderTo_topo n o ho
  have hl := orderTo_len ho
  refine ⟨ht, hl, fun y hy => Classical.byContradiction fun hno => ?_⟩
  have := sub_len (y :: o) (List.range n) (List.nodup_cons.2 ⟨hno, ht.nd⟩) (fun x hx => by
    rw [List.mem_cons] at hx
    rw [List.mem_range]
    rcases hx with rfl | hx
    · exact hy
    · exact ht.lt x hx)
  simp at this
  omega
theorem topoN_of {n : Nat} {E : Edges} (h : cycB n E = false) : ∃ o, TopoN n E o := by
  obtain ⟨o, ho⟩ : ∃ o, orderT n E = some o := by
    have := orderT_cyc n E
    rw [h] at this
    exact Option.isSome_iff_exists.1 this
  exact ⟨o, topoN_order ho⟩
theorem good_topo {H : List Txn} {level : Int} {m : List Cho} (hg : goodB H level m = true) : ∃ o, TopoN H.length (fullE H level m) o := by
  unfold goodB at hg
  exact topoN_of (by simpa using hg)
theorem TopoN.perm {n : Nat} {E : Edges} {o : List Nat} (h : TopoN n E o) : permB (o.map fun (x : Nat) => (x : Int)) n = true := by
  refine perm_nd (by rw [List.length_map]; exact h.len) ?_ fun x hx => ?_
  · rw [List.nodup_iff_pairwise_ne, List.pairwise_map]
    exact (List.nodup_iff_pairwise_ne.1 h.t.nd).imp fun hne e => hne (by omega)
  · obtain ⟨y, hy, rfl⟩ := List.mem_map.1 hx
    have := h.t.lt y hy
    omega
/-- Where a number stands in an order. -/
theorem TopoN.at_ {n : Nat} {E : Edges} {o : List Nat} (h : TopoN n E o) {x : Nat} (hx : x < n) : ∃ hi : o.idxOf x < o.length, o[o.idxOf x] = x := ⟨List.idxOf_lt_length_of_mem (h.all x hx), List.getElem_idxOf _⟩
theorem TopoN.idxI {n : Nat} {E : Edges} {o : List Nat} (h : TopoN n E o) {x : Nat} (hx : x < n) : idxI (o.map fun (x : Nat) => (x : Int)) (x : Int) = o.idxOf x := by
  obtain ⟨hi, he⟩ := h.at_ hx
  refine idxI_hit (by rw [List.length_map]; exact hi) (by rw [List.getElem_map, he]) fun j hj hlt e => ?_
  rw [List.getElem_map] at e
  have hnd := List.pairwise_iff_getElem.1 (List.nodup_iff_pairwise_ne.1 h.t.nd) j (o.idxOf x) (by simpa using hj) hi hlt
  exact hnd (by rw [he]; omega)
theorem TopoN.up {n : Nat} {E : Edges} {o : List Nat} (h : TopoN n E o) {x y : Nat} (hx : x < n) (hy : y < n) (he : E x y = true) : o.idxOf x < o.idxOf y := (h.t.up y (h.all y hy) x hx he).2
/-- What an order of all that follows decides was so chosen. -/
theorem dec_sub {H : List Txn} {m : List Cho} {E : Edges} {o : List Nat} (hm : allW (pairsL H) m) (ht : TopoN H.length E o) (hw : ∀ a b, wwE m a b = true → E a b = true) : ∀ c ∈ decW H (o.map fun (x : Nat) => (x : Int)), c ∈ m := by
  intro c hc
  rw [← ofL_dec ht.perm] at hc
  unfold ofL at hc
  obtain ⟨p, hp, rfl⟩ := List.mem_map.1 hc
  obtain ⟨a, b, ha, hb, hab, hbn, -, -⟩ := pairsL_mem hp
  have hia := ht.idxI (x := a) (by omega)
  have hib := ht.idxI (x := b) hbn
  unfold ofC
  rw [ha, hb, hia, hib]
  have hin : ∀ q ∈ m, ∀ x y : Nat, q.a = x → q.b = y → x < H.length → y < H.length → o.idxOf x < o.idxOf y := fun q hq x y hx hy hxn hyn => ht.up hxn hyn (hw x y (by
    unfold wwE
    rw [List.any_eq_true]
    exact ⟨q, hq, by rw [hx, hy]; simp⟩))
  rcases allW_has hm p hp with h | h
  · have := hin p h a b ha hb (by omega) hbn
    rw [if_neg (by omega)]
    exact h
  · have := hin (turnB p) h b a hb ha hbn (by omega)
    rw [if_pos (by omega)]
    have e : turnB p = ⟨p.key, b, a⟩ := by unfold turnB; rw [ha, hb]
    rw [← e]
    exact h
/-- A good order, in which whoever is surely ahead stands ahead. -/
structure FullP (H : List Txn) (level : Int) (π : List Int) : Prop where
  perm : permB π H.length = true
  past : ∀ i (hi : i < π.length) (x : Nat), x < H.length → pastE H x (π[i]).toNat = true → (x : Int) ∈ π.take i
  good : goodB H level (decW H π) = true
theorem full_of {H : List Txn} {level : Int} (h : hasB H level = true) : ∃ π, FullP H level π := by
  obtain ⟨m, hm, hg⟩ := hasB_iff.1 h
  obtain ⟨o, ht⟩ := good_topo hg
  have hsub : ∀ x y, orE (pastE H) (wwE m) x y = true → fullE H level m x y = true := fun x y h => by
    unfold fullE
    show (orE (pastE H) (wwE m) x y || _) = true
    rw [h]; rfl
  refine ⟨o.map fun (x : Nat) => (x : Int), ht.perm, fun i hi x hx hp => ?_, good_less (dec_sub hm ht fun a b h => hsub a b (by unfold orE; rw [h]; simp)) hg⟩
  rw [List.getElem_map, Int.toNat_natCast] at hp
  have hi2 : i < o.length := by simpa using hi
  have hup := ht.up hx (ht.t.lt _ (List.getElem_mem hi2)) (hsub _ _ (by unfold orE; rw [hp]; rfl))
  have hie : o.idxOf o[i] = i := by
    have h1 : o.idxOf o[i] < o.length := List.idxOf_lt_length_of_mem (List.getElem_mem hi2)
    have h2 : o[o.idxOf o[i]] = o[i] := List.getElem_idxOf _
    rcases Nat.lt_trichotomy (o.idxOf o[i]) i with g | g | g
    · exact absurd h2 (List.pairwise_iff_getElem.1 (List.nodup_iff_pairwise_ne.1 ht.t.nd) _ _ h1 hi2 g)
    · exact g
    · exact absurd h2.symm (List.pairwise_iff_getElem.1 (List.nodup_iff_pairwise_ne.1 ht.t.nd) _ _ hi2 h1 g)
  rw [hie] at hup
  obtain ⟨g1, g2⟩ := ht.at_ hx
  exact List.mem_take_iff_getElem.2 ⟨o.idxOf x, by rw [List.length_map]; omega, by rw [List.getElem_map, g2]⟩
theorem has_full {H : List Txn} {level : Int} : hasB H level = true ↔ ∃ π, FullP H level π := ⟨full_of, fun ⟨_, h⟩ => has_of_dec h.perm h.good⟩
end Go.Proofs.YtfhnamomiaekdaaGreat

namespace Go.Proofs.YtfhnamomiaekdaaGreat
open Go.RowKit Go.Inq

/-- Who writes a key, at a place of an order. -/
def wrA (H : List Txn) (π : List Int) (key : Int) (i : Nat) : Bool := (txnAt H (π.getD i 0).toNat).writes.contains key
/-- From whom the transaction at a place reads a key. -/
def fromB (H : List Txn) (π : List Int) (key : Int) : Nat → Int
  | 0 => -1
  | k + 1 => if wrA H π key k then π.getD k 0 else fromB H π key k
theorem from_spec (H : List Txn) (π : List Int) (key : Int) : ∀ k, (fromB H π key k = -1 ∧ ∀ i, i < k → wrA H π key i = false) ∨ ∃ i, i < k ∧ fromB H π key k = π.getD i 0 ∧ wrA H π key i = true ∧ ∀ j, i < j → j < k → wrA H π key j = false
  | 0 => .inl ⟨rfl, fun i hi => absurd hi (by omega)⟩
  | k + 1 => by
    unfold fromB
    cases h : wrA H π key k with
    | true =>
      rw [if_pos rfl]
      exact .inr ⟨k, by omega, rfl, h, fun j h1 h2 => absurd h1 (by omega)⟩
    | false =>
      rw [if_neg (by decide)]
      rcases from_spec H π key k with ⟨h1, h2⟩ | ⟨i, h1, h2, h3, h4⟩
      · refine .inl ⟨h1, fun i hi => ?_⟩
        by_cases e : i = k
        · subst e; exact h
        · exact h2 i (by omega)
      · refine .inr ⟨i, by omega, h2, h3, fun j hj1 hj2 => ?_⟩
        by_cases e : j = k
        · subst e; exact h
        · exact h4 j hj1 (by omega)
/-- What each transaction reads, one by one. -/
def playL (H : List Txn) (π : List Int) (t : Nat) : List It := (txnAt H t).reads.map fun r => ⟨r.a, fromB H π r.a (π.idxOf (t : Int))⟩
def sessB (H : List Txn) (π : List Int) : Bool := (List.range π.length).all fun i => (List.range i).all fun k => !(decide (π.getD k 0 > π.getD i 0) && decide ((txnAt H (π.getD k 0).toNat).sess = (txnAt H (π.getD i 0).toNat).sess))
def readsB (H : List Txn) (π : List Int) : Bool := (List.range H.length).all fun t => decide ((txnAt H t).reads = playL H π t)
/-- Does an order show that a history is what its transactions do, one by one? -/
def checkB (H : List Txn) (π : List Int) : Bool := permB π H.length && readsB H π && sessB H π
/-- All orders that begin so. -/
def nextB (H : List Txn) : Nat → List Int → Bool
  | 0, l => checkB H l
  | d + 1, l => (List.range H.length).any fun t => !l.contains (t : Int) && nextB H d (l ++ [(t : Int)])
def serB (H : List Txn) : Bool := nextB H H.length []

theorem nextB_some {H : List Txn} : ∀ d l, nextB H d l = true → ∃ q, checkB H (l ++ q) = true
  | 0, l, h => ⟨[], by rw [List.append_nil]; exact h⟩
  | d + 1, l, h => by
    unfold nextB at h
    rw [List.any_eq_true] at h
    obtain ⟨t, _, h2⟩ := h
    rw [Bool.and_eq_true] at h2
    obtain ⟨q, hq⟩ := nextB_some d _ h2.2
    exact ⟨(t : Int) :: q, by rw [List.append_assoc] at hq; exact hq⟩
theorem nextB_of {H : List Txn} : ∀ d l q, q.length = d → checkB H (l ++ q) = true → nextB H d l = true
  | 0, l, q, hq, h => by
    obtain rfl := List.eq_nil_of_length_eq_zero hq
    rw [List.append_nil] at h
    exact h
  | d + 1, l, [], hq, h => by simp at hq
  | d + 1, l, x :: q, hq, h => by
    have hp : permB (l ++ x :: q) H.length = true := by
      unfold checkB at h
      simp only [Bool.and_eq_true] at h
      exact h.1.1
    have hb := perm_bd hp (j := l.length) (by simp)
    rw [List.getElem_append_right (Nat.le_refl _)] at hb
    simp only [Nat.sub_self, List.getElem_cons_zero] at hb
    obtain ⟨t, rfl⟩ : ∃ t : Nat, x = (t : Int) := ⟨x.toNat, by omega⟩
    unfold nextB
    rw [List.any_eq_true]
    refine ⟨t, List.mem_range.2 (by omega), ?_⟩
    have hnd := perm_nodup hp
    rw [List.nodup_append] at hnd
    have hc : l.contains (t : Int) = false := by
      rw [Bool.eq_false_iff]
      intro hc
      exact hnd.2.2 _ (List.contains_iff_mem.1 hc) _ (by simp) rfl
    rw [hc, nextB_of d (l ++ [(t : Int)]) q (by simpa using hq) (by rw [List.append_assoc]; exact h)]
    rfl
theorem serB_iff {H : List Txn} : serB H = true ↔ ∃ π, checkB H π = true := by
  unfold serB
  constructor
  · intro h
    obtain ⟨q, hq⟩ := nextB_some _ _ h
    exact ⟨q, by simpa using hq⟩
  · rintro ⟨π, h⟩
    have hp : permB π H.length = true := by
      unfold checkB at h
      simp only [Bool.and_eq_true] at h
      exact h.1.1
    exact nextB_of _ [] π (perm_len hp) (by simpa using h)

/-- Two that write one key are a pair. -/
theorem pairsK_have {key : Int} {a b : Nat} : ∀ {l : List Nat}, l.Pairwise (· < ·) → a ∈ l → b ∈ l → a < b → (⟨key, a, b⟩ : Cho) ∈ pairsK key l
  | [], _, h, _, _ => by cases h
  | x :: r, hp, ha, hb, hab => by
    rw [List.pairwise_cons] at hp
    unfold pairsK
    rw [List.mem_append]
    rw [List.mem_cons] at ha hb
    rcases ha with rfl | ha
    · rcases hb with rfl | hb
      · omega
      · exact .inl (List.mem_map.2 ⟨b, hb, rfl⟩)
    · rcases hb with rfl | hb
      · have := hp.1 a ha; omega
      · exact .inr (pairsK_have hp.2 ha hb hab)
theorem pairsL_have {H : List Txn} {key : Int} {a b : Nat} (hab : a < b) (hb : b < H.length) (ha1 : key ∈ (txnAt H a).writes) (hb1 : key ∈ (txnAt H b).writes) : (⟨key, a, b⟩ : Cho) ∈ pairsL H := by
  unfold pairsL
  refine List.mem_flatten.2 ⟨_, List.mem_map.2 ⟨key, ?_, rfl⟩, pairsK_have (wrsL_rise H key) (wrsL_mem.2 ⟨by omega, ha1⟩) (wrsL_mem.2 ⟨hb, hb1⟩) hab⟩
  rw [txnAt_of hb] at hb1
  exact keysL_mem.2 ⟨_, List.getElem_mem hb, hb1⟩

/-- A place in an order. -/
theorem perm_at {π : List Int} {n x : Nat} (h : permB π n = true) (hx : x < n) : ∃ hi : π.idxOf (x : Int) < π.length, π[π.idxOf (x : Int)] = (x : Int) := ⟨List.idxOf_lt_length_of_mem (perm_has h hx), List.getElem_idxOf _⟩
theorem perm_inj {π : List Int} {n x y : Nat} (h : permB π n = true) (hx : x < n) (hy : y < n) (he : π.idxOf (x : Int) = π.idxOf (y : Int)) : x = y := by
  obtain ⟨h1, e1⟩ := perm_at h hx
  obtain ⟨h2, e2⟩ := perm_at h hy
  have : π[π.idxOf (x : Int)] = π[π.idxOf (y : Int)] := by simp only [he]
  omega
theorem perm_idx {π : List Int} {n i : Nat} (h : permB π n = true) (hi : i < π.length) : π.idxOf π[i] = i := by
  have h1 : π.idxOf π[i] < π.length := List.idxOf_lt_length_of_mem (List.getElem_mem hi)
  have h2 : π[π.idxOf π[i]] = π[i] := List.getElem_idxOf _
  rcases Nat.lt_trichotomy (π.idxOf π[i]) i with g | g | g
  · exact absurd h2 (perm_ne h g hi)
  · exact g
  · exact absurd h2.symm (perm_ne h g h1)
theorem getD_at {π : List Int} {i : Nat} (hi : i < π.length) : π.getD i 0 = π[i] := by rw [List.getD_eq_getElem?_getD, List.getElem?_eq_getElem hi, Option.getD_some]
/-- The order's own choices: the first stands ahead. -/
theorem of_ahead {H : List Txn} {π : List Int} (h : permB π H.length = true) {c : Cho} (hc : c ∈ decW H π) : ∃ a b : Nat, c.a = a ∧ c.b = b ∧ a < H.length ∧ b < H.length ∧ c.key ∈ (txnAt H a).writes ∧ c.key ∈ (txnAt H b).writes ∧ π.idxOf (a : Int) < π.idxOf (b : Int) := by
  rw [← ofL_dec h] at hc
  unfold ofL at hc
  obtain ⟨p, hp, rfl⟩ := List.mem_map.1 hc
  obtain ⟨a, b, ha, hb, hab, hbn, h1, h2⟩ := pairsL_mem hp
  have hI : ∀ x, x < H.length → idxI π (x : Int) = π.idxOf (x : Int) := fun x hx => by
    obtain ⟨hi, he⟩ := perm_at h hx
    refine idxI_hit hi he fun j hj hlt e => ?_
    exact perm_ne h hlt hi (by rw [he]; exact e)
  have hne : π.idxOf (a : Int) ≠ π.idxOf (b : Int) := fun e => by
    have := perm_inj h (by omega) hbn e
    omega
  have e1 := hI a (by omega)
  have e2 := hI b hbn
  unfold ofC
  rw [ha, hb, e1, e2]
  split
  · exact ⟨b, a, rfl, rfl, hbn, by omega, h2, h1, by omega⟩
  · exact ⟨a, b, ha, hb, by omega, hbn, h1, h2, by omega⟩
theorem ser_good {H : List Txn} {π : List Int} (h : checkB H π = true) : goodB H 0 (decW H π) = true := by
  unfold checkB at h
  simp only [Bool.and_eq_true] at h
  obtain ⟨⟨hp, hr⟩, hs⟩ := h
  have hR : ∀ t, t < H.length → ∀ r ∈ (txnAt H t).reads, r.b = fromB H π r.a (π.idxOf (t : Int)) := fun t ht r hr2 => by
    unfold readsB at hr
    rw [List.all_eq_true] at hr
    have h1 := of_decide_eq_true (hr t (List.mem_range.2 ht))
    unfold playL at h1
    obtain ⟨i, hi, rfl⟩ := List.getElem_of_mem hr2
    have h2 := congrArg (fun l => l[i]?) h1
    simp only [List.getElem?_map, List.getElem?_eq_getElem hi, Option.map_some, Option.some.injEq] at h2
    have h3 := congrArg It.b h2
    exact h3
  have hwA : ∀ x, x < H.length → ∀ key, key ∈ (txnAt H x).writes → wrA H π key (π.idxOf (x : Int)) = true := fun x hx key hk => by
    obtain ⟨hi, he⟩ := perm_at hp hx
    unfold wrA
    rw [getD_at hi, he, Int.toNat_natCast]
    exact List.contains_iff_mem.2 hk
  have hso : ∀ a b, a < H.length → b < H.length → soE H a b = true → π.idxOf (a : Int) < π.idxOf (b : Int) := fun a b ha hb he => by
    unfold soE at he
    rw [Bool.and_eq_true] at he
    have hab := of_decide_eq_true he.1
    refine Classical.byContradiction fun hno => ?_
    have hne : π.idxOf (a : Int) ≠ π.idxOf (b : Int) := fun e => by have := perm_inj hp ha hb e; omega
    obtain ⟨i1, e1⟩ := perm_at hp ha
    obtain ⟨i2, e2⟩ := perm_at hp hb
    unfold sessB at hs
    rw [List.all_eq_true] at hs
    have h1 := hs _ (List.mem_range.2 i1)
    rw [List.all_eq_true] at h1
    have h2 := h1 (π.idxOf (b : Int)) (List.mem_range.2 (by omega))
    rw [getD_at i1, getD_at i2, e1, e2, Int.toNat_natCast, Int.toNat_natCast, decide_eq_true (show ((b : Nat) : Int) > (a : Int) by omega), decide_eq_true (of_decide_eq_true he.2).symm] at h2
    cases h2
  have hwr : ∀ a b, a < H.length → b < H.length → wrE H a b = true → π.idxOf (a : Int) < π.idxOf (b : Int) := fun a b ha hb he => by
    unfold wrE at he
    rw [Bool.and_eq_true, List.any_eq_true] at he
    obtain ⟨_, r, hr2, hra⟩ := he
    have hra := of_decide_eq_true hra
    have h1 := hR b hb r hr2
    rcases from_spec H π r.a (π.idxOf (b : Int)) with ⟨g, _⟩ | ⟨i, g1, g2, _, _⟩
    · omega
    · obtain ⟨i2, e2⟩ := perm_at hp hb
      have hil : i < π.length := by omega
      rw [getD_at hil] at g2
      have : π[i] = (a : Int) := by omega
      have hx := perm_idx hp hil
      rw [this] at hx
      omega
  have hin : ∀ a b, a < H.length → b < H.length → initE H a b = true → π.idxOf (a : Int) < π.idxOf (b : Int) := fun a b ha hb he => by
    unfold initE at he
    rw [Bool.and_eq_true, List.any_eq_true] at he
    obtain ⟨hne, r, hr2, hra⟩ := he
    rw [Bool.and_eq_true, List.contains_iff_mem] at hra
    have hne := of_decide_eq_true hne
    have hr1 := of_decide_eq_true hra.1
    have h1 := hR a ha r hr2
    obtain ⟨i2, e2⟩ := perm_at hp ha
    rcases from_spec H π r.a (π.idxOf (a : Int)) with ⟨_, g⟩ | ⟨i, g1, g2, _, _⟩
    · refine Classical.byContradiction fun hno => ?_
      have hne2 : π.idxOf (a : Int) ≠ π.idxOf (b : Int) := fun e => hne (perm_inj hp ha hb e)
      have := g _ (show π.idxOf (b : Int) < _ by omega)
      rw [hwA b hb r.a hra.2] at this
      cases this
    · have hil : i < π.length := by omega
      rw [getD_at hil] at g2
      have := perm_bd hp hil
      omega
  unfold goodB
  rw [Bool.not_eq_true']
  refine cyc_rank (fun x => π.idxOf (x : Int)) fun x y hx hy he => ?_
  unfold fullE at he
  rw [if_neg (by decide)] at he
  have he : ((pastE H x y || wwE (decW H π) x y) || rwE H (decW H π) x y) = true := he
  rw [Bool.or_eq_true, Bool.or_eq_true] at he
  rcases he with (he | he) | he
  · unfold pastE orE at he
    rw [Bool.or_eq_true] at he
    exact he.elim (hso x y hx hy) (hwr x y hx hy)
  · unfold wwE at he
    rw [List.any_eq_true] at he
    obtain ⟨c, hc, h2⟩ := he
    rw [Bool.and_eq_true] at h2
    obtain ⟨a, b, e1, e2, _, _, _, _, hlt⟩ := of_ahead hp hc
    have h3 := of_decide_eq_true h2.1
    have h4 := of_decide_eq_true h2.2
    obtain rfl : a = x := by omega
    obtain rfl : b = y := by omega
    exact hlt
  · unfold rwE at he
    rw [Bool.or_eq_true] at he
    rcases he with he | he
    · exact hin x y hx hy he
    · rw [List.any_eq_true] at he
      obtain ⟨c, hc, h2⟩ := he
      simp only [Bool.and_eq_true, List.any_eq_true] at h2
      obtain ⟨⟨h3, h4⟩, r, hr2, h5, h6⟩ := h2
      have h3 := of_decide_eq_true h3
      have h4 := of_decide_eq_true h4
      have h5 := of_decide_eq_true h5
      have h6 := of_decide_eq_true h6
      obtain ⟨a, b, e1, e2, ha, hb, hwa, hwb, hlt⟩ := of_ahead hp hc
      obtain rfl : b = y := by omega
      refine Classical.byContradiction fun hno => ?_
      have hne2 : π.idxOf (x : Int) ≠ π.idxOf (b : Int) := fun e => h4 (perm_inj hp hx hb e)
      have h1 := hR x hx r hr2
      obtain ⟨i2, e2'⟩ := perm_at hp hx
      rcases from_spec H π r.a (π.idxOf (x : Int)) with ⟨g, _⟩ | ⟨i, g1, g2, _, g4⟩
      · omega
      · have hil : i < π.length := by omega
        rw [getD_at hil] at g2
        have hia : π[i] = (a : Int) := by omega
        have hx2 := perm_idx hp hil
        rw [hia] at hx2
        have := g4 (π.idxOf (b : Int)) (by omega) (by omega)
        rw [h5, hwA b hb _ hwb] at this
        cases this
theorem topo_ser {H : List Txn} {m : List Cho} {o : List Nat} (hr : rightH H = true) (hm : allW (pairsL H) m) (ht : TopoN H.length (fullE H 0 m) o) : checkB H (o.map fun (x : Nat) => (x : Int)) = true := by
  have hp := ht.perm
  have hfull : ∀ x y, ((pastE H x y || wwE m x y) || rwE H m x y) = true → fullE H 0 m x y = true := fun x y h => by
    unfold fullE
    rw [if_neg (by decide)]
    exact h
  generalize hπ : (o.map fun (x : Nat) => (x : Int)) = π at hp
  have hpos : ∀ x, x < H.length → π.idxOf (x : Int) = o.idxOf x := fun x hx => by
    obtain ⟨hi, he⟩ := ht.at_ hx
    have hi2 : o.idxOf x < π.length := by rw [← hπ, List.length_map]; exact hi
    have : π[o.idxOf x] = (x : Int) := by subst hπ; rw [List.getElem_map, he]
    rw [← this]
    exact perm_idx hp hi2
  have hup : ∀ x y, x < H.length → y < H.length → ((pastE H x y || wwE m x y) || rwE H m x y) = true → π.idxOf (x : Int) < π.idxOf (y : Int) := fun x y hx hy h => by
    rw [hpos x hx, hpos y hy]
    exact ht.up hx hy (hfull x y h)
  have hbd : ∀ i (hi : i < π.length), ∃ u : Nat, u < H.length ∧ π[i] = (u : Int) ∧ π.idxOf (u : Int) = i := fun i hi => by
    have h1 := perm_bd hp hi
    refine ⟨π[i].toNat, by omega, by omega, ?_⟩
    rw [show ((π[i].toNat : Nat) : Int) = π[i] by omega]
    exact perm_idx hp hi
  unfold checkB
  rw [hp, Bool.true_and, Bool.and_eq_true]
  constructor
  · unfold readsB
    rw [List.all_eq_true]
    intro t ht2
    have ht2 := List.mem_range.1 ht2
    refine decide_eq_true ?_
    unfold playL
    refine List.ext_getElem (by simp) fun i h1 h2 => ?_
    rw [List.getElem_map]
    generalize hrr : (txnAt H t).reads[i] = r
    have hmem : r ∈ (txnAt H t).reads := by rw [← hrr]; exact List.getElem_mem h1
    suffices hs : r.b = fromB H π r.a (π.idxOf (t : Int)) by rw [← hs]
    obtain ⟨it, et⟩ := perm_at hp ht2
    have hth := (((rightH_iff H).1 hr).2 t ht2).there r (by rw [← txnAt_of ht2]; exact hmem)
    rcases from_spec H π r.a (π.idxOf (t : Int)) with ⟨g1, g2⟩ | ⟨j, g1, g2, g3, g4⟩
    · rcases (thereB_iff H t r).1 hth with e | ⟨k, hk, e1, e2, e3⟩
      · rw [e, g1]
      · exfalso
        have hlt := hup k t hk ht2 (by
          have : pastE H k t = true := by
            unfold pastE orE wrE
            rw [Bool.or_eq_true]
            right
            rw [Bool.and_eq_true, List.any_eq_true]
            exact ⟨decide_eq_true e2, r, hmem, decide_eq_true e1⟩
          rw [this]; rfl)
        have := g2 _ hlt
        obtain ⟨ik, ek⟩ := perm_at hp hk
        unfold wrA at this
        rw [getD_at ik, ek, Int.toNat_natCast, txnAt_of hk, List.contains_iff_mem.2 e3] at this
        cases this
    · have hjl : j < π.length := by omega
      obtain ⟨u, hu, eu, iu⟩ := hbd j hjl
      have hut : u ≠ t := fun e => by subst e; omega
      unfold wrA at g3
      rw [getD_at hjl, eu, Int.toNat_natCast, List.contains_iff_mem] at g3
      rw [getD_at hjl, eu] at g2
      rcases (thereB_iff H t r).1 hth with e | ⟨k, hk, e1, e2, e3⟩
      · exfalso
        have hlt := hup t u ht2 hu (by
          have : initE H t u = true := by
            unfold initE
            rw [Bool.and_eq_true, List.any_eq_true]
            exact ⟨decide_eq_true hut.symm, r, hmem, by rw [Bool.and_eq_true, List.contains_iff_mem]; exact ⟨decide_eq_true e, g3⟩⟩
          unfold rwE
          rw [this]; simp)
        omega
      · by_cases huk : u = k
        · subst huk; rw [e1, g2]
        · exfalso
          have hlt := hup k t hk ht2 (by
            have : pastE H k t = true := by
              unfold pastE orE wrE
              rw [Bool.or_eq_true]
              right
              rw [Bool.and_eq_true, List.any_eq_true]
              exact ⟨decide_eq_true e2, r, hmem, decide_eq_true e1⟩
            rw [this]; rfl)
          obtain ⟨ik, ek⟩ := perm_at hp hk
          have hkw : r.a ∈ (txnAt H k).writes := by rw [txnAt_of hk]; exact e3
          have hku : π.idxOf (k : Int) < π.idxOf (u : Int) := by
            have hne : π.idxOf (k : Int) ≠ π.idxOf (u : Int) := fun e => huk (perm_inj hp hk hu e).symm
            refine Classical.byContradiction fun hno => ?_
            have := g4 (π.idxOf (k : Int)) (by omega) hlt
            unfold wrA at this
            rw [getD_at ik, ek, Int.toNat_natCast, List.contains_iff_mem.2 hkw] at this
            cases this
          have hch : (⟨r.a, k, u⟩ : Cho) ∈ m ∨ (⟨r.a, u, k⟩ : Cho) ∈ m := by
            rcases Nat.lt_or_ge u k with g | g
            · have := allW_has hm _ (pairsL_have g hk g3 hkw)
              exact this.symm.imp id id
            · exact allW_has hm _ (pairsL_have (show k < u by omega) hu hkw g3)
          rcases hch with hch | hch
          · have := hup t u ht2 hu (by
              have : rwE H m t u = true := by
                unfold rwE
                rw [Bool.or_eq_true]
                right
                rw [List.any_eq_true]
                refine ⟨_, hch, ?_⟩
                simp only [Bool.and_eq_true, List.any_eq_true]
                exact ⟨⟨by simp, decide_eq_true hut.symm⟩, r, hmem, by simp, decide_eq_true e1⟩
              rw [this]; simp)
            omega
          · have := hup u k hu hk (by
              have : wwE m u k = true := by
                unfold wwE
                rw [List.any_eq_true]
                exact ⟨_, hch, by simp⟩
              rw [this]; simp)
            omega
  · unfold sessB
    rw [List.all_eq_true]
    intro i hi
    have hi := List.mem_range.1 hi
    rw [List.all_eq_true]
    intro k hk
    have hk := List.mem_range.1 hk
    obtain ⟨u, hu, eu, iu⟩ := hbd i hi
    obtain ⟨v, hv, ev, iv⟩ := hbd k (by omega)
    rw [getD_at hi, getD_at (show k < π.length by omega), eu, ev, Int.toNat_natCast, Int.toNat_natCast, Bool.not_eq_true', Bool.and_eq_false_iff]
    refine Classical.byContradiction fun hno => ?_
    simp only [decide_eq_false_iff_not, not_or, Classical.not_not] at hno
    have := hup u v hu hv (by
      have : soE H u v = true := by
        unfold soE
        rw [Bool.and_eq_true]
        exact ⟨decide_eq_true (by omega), decide_eq_true hno.2.symm⟩
      unfold pastE orE
      rw [this]; rfl)
    omega
theorem good_ser {H : List Txn} {m : List Cho} (hr : rightH H = true) (hm : allW (pairsL H) m) (hg : goodB H 0 m = true) : ∃ π, checkB H π = true := by
  obtain ⟨o, ht⟩ := good_topo hg
  exact ⟨_, topo_ser hr hm ht⟩
/-- Some order shows it just if some way to choose all pairs is good. -/
theorem ser_has {H : List Txn} (hr : rightH H = true) : serB H = hasB H 0 := by
  rw [Bool.eq_iff_iff, serB_iff]
  constructor
  · rintro ⟨π, h⟩
    have hp : permB π H.length = true := by
      unfold checkB at h
      simp only [Bool.and_eq_true] at h
      exact h.1.1
    exact has_of_dec hp (ser_good h)
  · intro h
    obtain ⟨m, hm, hg⟩ := hasB_iff.1 h
    exact good_ser hr hm hg
end Go.Proofs.YtfhnamomiaekdaaGreat

namespace Go.Proofs.YtfhnamomiaekdaaGreat
open Go.RowKit Go.Inq

/-- The mark of a node. -/
def mkD (s : List Int) (x : Nat) : Int := s.getD x 0
theorem mkD_set {s : List Int} {x : Nat} {v : Int} (hx : x < s.length) (y : Nat) : mkD (s.set x v) y = if y = x then v else mkD s y := by
  unfold mkD
  rw [List.getD_eq_getElem?_getD, List.getD_eq_getElem?_getD, List.getElem?_set]
  by_cases e : x = y
  · subst e; rw [if_pos rfl, if_pos hx, if_pos rfl]; rfl
  · rw [if_neg e, if_neg (fun h => e h.symm)]

/-- Marks that may be: those done can be laid in a row such that what follows one is ahead of it. -/
structure DfsI (n : Nat) (E : Edges) (s : List Int) : Prop where
  len : s.length = n
  val : ∀ x ∈ s, x = 0 ∨ x = 1 ∨ x = 2
  ord : ∃ o : List Nat, o.Nodup ∧ (∀ x, x ∈ o ↔ x < n ∧ mkD s x = 2) ∧ ∀ i (hi : i < o.length) y, y < n → E o[i] y = true → y ∈ o.take i
theorem DfsI.start (n : Nat) (E : Edges) : DfsI n E (List.replicate n 0) := by
  refine ⟨by simp, fun x hx => .inl (List.eq_of_mem_replicate hx), [], List.nodup_nil, fun x => ?_, fun i hi => by cases hi⟩
  constructor
  · intro h; cases h
  · rintro ⟨h, h2⟩
    unfold mkD at h2
    rw [List.getD_eq_getElem?_getD, List.getElem?_replicate] at h2
    split at h2 <;> simp at h2
theorem DfsI.at_ {n : Nat} {E : Edges} {s : List Int} (h : DfsI n E s) {x : Nat} (hx : x < n) : mkD s x = s[x]'(by rw [h.len]; exact hx) := by
  unfold mkD; rw [List.getD_eq_getElem?_getD, List.getElem?_eq_getElem (by rw [h.len]; exact hx), Option.getD_some]
theorem DfsI.val_ {n : Nat} {E : Edges} {s : List Int} (h : DfsI n E s) {x : Nat} (hx : x < n) : mkD s x = 0 ∨ mkD s x = 1 ∨ mkD s x = 2 := by
  rw [h.at_ hx]; exact h.val _ (List.getElem_mem _)
theorem DfsI.begin {n : Nat} {E : Edges} {s : List Int} (h : DfsI n E s) {x : Nat} (hx : x < n) (h0 : mkD s x = 0) : DfsI n E (s.set x 1) := by
  have hxs : x < s.length := by rw [h.len]; exact hx
  obtain ⟨o, h1, h2, h3⟩ := h.ord
  refine ⟨by rw [List.length_set]; exact h.len, fun y hy => ?_, o, h1, fun y => ?_, h3⟩
  · rcases List.mem_or_eq_of_mem_set hy with e | e
    · exact h.val y e
    · exact .inr (.inl e)
  · rw [h2 y, mkD_set hxs]
    by_cases e : y = x
    · subst e; rw [if_pos rfl, h0]; simp
    · rw [if_neg e]
theorem DfsI.done {n : Nat} {E : Edges} {s : List Int} (h : DfsI n E s) {x : Nat} (hx : x < n) (h0 : mkD s x = 1) (hs : ∀ y, y < n → E x y = true → mkD s y = 2) : DfsI n E (s.set x 2) := by
  have hxs : x < s.length := by rw [h.len]; exact hx
  obtain ⟨o, h1, h2, h3⟩ := h.ord
  have hxo : x ∉ o := fun hm => by have := ((h2 x).1 hm).2; rw [h0] at this; cases this
  refine ⟨by rw [List.length_set]; exact h.len, fun y hy => ?_, o ++ [x], ?_, fun y => ?_, fun i hi y hy he => ?_⟩
  · rcases List.mem_or_eq_of_mem_set hy with e | e
    · exact h.val y e
    · exact .inr (.inr e)
  · rw [List.nodup_append]
    refine ⟨h1, by simp, fun a ha b hb e => ?_⟩
    rw [List.mem_singleton] at hb
    subst e; subst hb; exact hxo ha
  · rw [List.mem_append, List.mem_singleton, h2 y, mkD_set hxs]
    by_cases e : y = x
    · subst e; rw [if_pos rfl]; simp [hx]
    · rw [if_neg e]; simp [e]
  · rw [List.length_append, List.length_singleton] at hi
    rcases Nat.lt_or_ge i o.length with hio | hio
    · rw [List.getElem_append_left hio] at he
      rw [List.take_append_of_le_length (by omega)]
      exact h3 i hio y hy he
    · have hie : i = o.length := by omega
      subst hie
      rw [List.getElem_append_right (Nat.le_refl _)] at he
      simp only [Nat.sub_self, List.getElem_cons_zero] at he
      rw [List.take_append_of_le_length (Nat.le_refl _), List.take_length]
      exact (h2 y).2 ⟨hy, hs y hy he⟩
theorem DfsI.fine {n : Nat} {E : Edges} {s : List Int} (h : DfsI n E s) (ha : ∀ x, x < n → mkD s x = 2) : cycB n E = false := by
  obtain ⟨o, h1, h2, h3⟩ := h.ord
  refine cyc_rank (fun x => o.length - o.idxOf x) fun x y hx hy he => ?_
  have hxo : x ∈ o := (h2 x).2 ⟨hx, ha x hx⟩
  have hi := List.idxOf_lt_length_of_mem hxo
  have hm := h3 (o.idxOf x) hi y hy (by rw [List.getElem_idxOf]; exact he)
  obtain ⟨j, hj, e⟩ := List.getElem_of_mem hm
  rw [List.getElem_take] at e
  rw [List.length_take] at hj
  have hlt : o.idxOf y < o.idxOf x := by
    have h4 : o.idxOf y = j := by rw [← e]; exact List.Nodup.idxOf_getElem h1 _ _
    rw [h4]; omega
  show o.length - o.idxOf x < o.length - o.idxOf y
  omega

/-- How many are not seen yet. -/
def zeroD (s : List Int) : Nat := s.count 0
theorem zeroD_begin {s : List Int} {x : Nat} (hx : x < s.length) (h0 : mkD s x = 0) : zeroD (s.set x 1) + 1 = zeroD s := by
  unfold zeroD
  have he : s[x] = 0 := by unfold mkD at h0; rw [List.getD_eq_getElem?_getD, List.getElem?_eq_getElem hx, Option.getD_some] at h0; exact h0
  rw [List.count_set hx, he]
  have hp : 0 < s.count 0 := List.count_pos_iff.2 (by rw [← he]; exact List.getElem_mem hx)
  simp
  omega

/-- What a walk from a node does. -/
structure DfsO (n : Nat) (E : Edges) (s : List Int) (s' : List Int) : Prop where
  inv : DfsI n E s'
  grey : ∀ y, y < n → (mkD s' y = 1 ↔ mkD s y = 1)
  black : ∀ y, y < n → mkD s y = 2 → mkD s' y = 2
  zero : zeroD s' ≤ zeroD s
theorem DfsO.refl {n : Nat} {E : Edges} {s : List Int} (h : DfsI n E s) : DfsO n E s s := ⟨h, fun _ _ => Iff.rfl, fun _ _ h => h, Nat.le_refl _⟩
theorem DfsO.trans {n : Nat} {E : Edges} {a b c : List Int} (h : DfsO n E a b) (h' : DfsO n E b c) : DfsO n E a c := ⟨h'.inv, fun y hy => (h'.grey y hy).trans (h.grey y hy), fun y hy hb => h'.black y hy (h.black y hy hb), Nat.le_trans h'.zero h.zero⟩
theorem zeroD_set2 {s : List Int} {x : Nat} (hx : x < s.length) (h0 : mkD s x = 1) : zeroD (s.set x 2) ≤ zeroD s := by
  unfold zeroD
  have he : s[x] = 1 := by unfold mkD at h0; rw [List.getD_eq_getElem?_getD, List.getElem?_eq_getElem hx, Option.getD_some] at h0; exact h0
  rw [List.count_set hx, he]
  simp
/-- A node's walk whose followers are all done. -/
theorem DfsO.closed {n : Nat} {E : Edges} {s t : List Int} {x : Nat} (hs : DfsI n E s) (hx : x < n) (h0 : mkD s x = 0) (h : DfsO n E (s.set x 1) t) (hb : ∀ y, y < n → E x y = true → mkD t y = 2) : DfsO n E s (t.set x 2) ∧ mkD (t.set x 2) x = 2 := by
  have hxs : x < s.length := by rw [hs.len]; exact hx
  have hxt : x < t.length := by rw [h.inv.len]; exact hx
  have h1 : mkD t x = 1 := (h.grey x hx).2 (by rw [mkD_set hxs, if_pos rfl])
  refine ⟨⟨h.inv.done hx h1 hb, fun y hy => ?_, fun y hy h2 => ?_, ?_⟩, by rw [mkD_set hxt, if_pos rfl]⟩
  · rw [mkD_set hxt]
    by_cases e : y = x
    · subst e; rw [if_pos rfl, h0]; simp
    · rw [if_neg e, h.grey y hy, mkD_set hxs, if_neg e]
  · rw [mkD_set hxt]
    by_cases e : y = x
    · rw [if_pos e]
    · rw [if_neg e]; exact h.black y hy (by rw [mkD_set hxs, if_neg e]; exact h2)
  · refine Nat.le_trans (zeroD_set2 hxt h1) (Nat.le_trans h.zero ?_)
    have := zeroD_begin hxs h0
    omega
/-- All that is being gone through leads to a node. -/
def GreyTo (n : Nat) (E : Edges) (s : List Int) (x : Nat) : Prop := ∀ g, g < n → mkD s g = 1 → cloE n E g x = true
theorem GreyTo.hit {n : Nat} {E : Edges} {s : List Int} {x : Nat} (h : GreyTo n E s x) (hx : x < n) (h1 : mkD s x = 1) : cycB n E = true := by
  unfold cycB
  exact List.any_eq_true.2 ⟨x, List.mem_range.2 hx, h x hx h1⟩
theorem GreyTo.next {n : Nat} {E : Edges} {s t : List Int} {x y : Nat} (h : GreyTo n E s x) (hl : s.length = n) (hx : x < n) (h2 : DfsO n E (s.set x 1) t) (he : E x y = true) : GreyTo n E t y := by
  intro g hg h1
  have h3 := (h2.grey g hg).1 h1
  rw [mkD_set (by rw [hl]; exact hx)] at h3
  by_cases e : g = x
  · subst e; exact cloE_edge he
  · rw [if_neg e] at h3
    exact cloE_trans hx (h g hg h3) (cloE_edge he)
theorem greyTo_none {n : Nat} {E : Edges} {s : List Int} {x : Nat} (h : ∀ g, g < n → mkD s g ≠ 1) : GreyTo n E s x := fun g hg h1 => absurd h1 (h g hg)
end Go.Proofs.YtfhnamomiaekdaaGreat

namespace Go.Inq

/-- That of a read; that of a choice; that of a read of what is written over (of two transactions). -/
def redE (H : List Txn) (x y : Nat) : Bool := (txnAt H y).reads.any fun r => decide (r.b = (x : Int))
def chosE (H : List Txn) (x y : Nat) (c : Cho) : Bool := decide (c.a = (x : Int)) && decide (c.b = (y : Int)) && decide (x ≠ y) && (txnAt H x).writes.contains c.key && (txnAt H y).writes.contains c.key
def writE (H : List Txn) (l : List Cho) (x y : Nat) : Bool := l.any (chosE H x y)
def overR (H : List Txn) (l : List Cho) (y : Nat) (r : It) : Bool := (txnAt H y).writes.contains r.a && (decide (r.b < 0) || (decide (r.b ≠ (y : Int)) && l.any fun c => decide (c = ⟨r.a, r.b, y⟩)))
def overE (H : List Txn) (l : List Cho) (x y : Nat) : Bool := decide (x ≠ y) && (txnAt H x).reads.any (overR H l y)
def dirE (H : List Txn) (l : List Cho) (x y : Nat) : Bool := soE H x y || redE H x y || writE H l x y
/-- Two of a history's transactions. -/
def twoB (H : List Txn) (x y : Int) : Bool := rightH H && decide (0 ≤ x) && decide (x < (H.length : Int)) && decide (0 ≤ y) && decide (y < (H.length : Int))
def directB (H : List Txn) (l : List Cho) (x y : Int) : Bool := twoB H x y && dirE H l x.toNat y.toNat
def antiB (H : List Txn) (l : List Cho) (x y : Int) : Bool := twoB H x y && overE H l x.toNat y.toNat
/-- Is there an edge? -/
def isB (H : List Txn) (level : Int) (l : List Cho) (x y : Int) : Bool :=
  if level = 0 then directB H l x y || antiB H l x y
  else if level = 1 then (List.range H.length).any fun m => directB H l x (m : Int) && (decide ((m : Int) = y) || antiB H l (m : Int) y)
  else false
/-- Are some transactions a cycle? -/
def ringB (H : List Txn) (level : Int) (l : List Cho) (row : List Int) : Bool :=
  decide (0 < row.length) && (List.range row.length).all fun i => !(row.take i).contains (row.getD i 0) && isB H level l (row.getD i 0) (row.getD ((i + 1) % row.length) 0)
theorem twoB_iff {H : List Txn} {x y : Int} : twoB H x y = true ↔ rightH H = true ∧ ∃ a b : Nat, x = a ∧ y = b ∧ a < H.length ∧ b < H.length := by
  unfold twoB
  simp only [Bool.and_eq_true, decide_eq_true_eq]
  constructor
  · rintro ⟨⟨⟨⟨h1, h2⟩, h3⟩, h4⟩, h5⟩
    exact ⟨h1, x.toNat, y.toNat, by omega, by omega, by omega, by omega⟩
  · rintro ⟨h1, a, b, rfl, rfl, h2, h3⟩
    exact ⟨⟨⟨⟨h1, by omega⟩, by omega⟩, by omega⟩, by omega⟩
theorem directB_nat {H : List Txn} {l : List Cho} {x y : Nat} (hr : rightH H = true) (hx : x < H.length) (hy : y < H.length) : directB H l x y = dirE H l x y := by
  unfold directB
  rw [twoB_iff.2 ⟨hr, x, y, rfl, rfl, hx, hy⟩]; simp
theorem antiB_nat {H : List Txn} {l : List Cho} {x y : Nat} (hr : rightH H = true) (hx : x < H.length) (hy : y < H.length) : antiB H l x y = overE H l x y := by
  unfold antiB
  rw [twoB_iff.2 ⟨hr, x, y, rfl, rfl, hx, hy⟩]; simp
end Go.Inq

namespace Go.Proofs.YtfhnamomiaekdaaGreat
open Go.RowKit Go.Inq

/-- A key, and who writes it, in order. -/
structure SRow where
  key : Int
  l : List Int
deriving DecidableEq
def natI (l : List Nat) : List Int := l.map fun (x : Nat) => (x : Int)
def sortI (l : List Int) : List Int := l.mergeSort fun x y => decide (x ≤ y)
/-- The rows that an order makes. -/
def rowS (H : List Txn) (π : List Int) (k : Int) : SRow := ⟨k, π.filter fun t => (txnAt H t.toNat).writes.contains k⟩
def rowsL (H : List Txn) (π : List Int) : List SRow := if rightH H = true ∧ permB π H.length = true then (keysL H).map (rowS H π) else []
/-- May rows be? -/
def rightS (H : List Txn) (R : List SRow) : Bool := rightH H && decide (R.map (·.key) = keysL H) && R.all fun r => decide (sortI r.l = natI (wrsL H r.key))
/-- The choices that rows make. -/
def choR (H : List Txn) (r : SRow) : List Cho := (pairsK r.key (wrsL H r.key)).map (ofC r.l)
def choS (H : List Txn) (R : List SRow) : List Cho := if rightS H R then (R.map (choR H)).flatten else []

theorem sortI_rise (l : List Int) : (sortI l).Pairwise (· ≤ ·) := by
  unfold sortI
  refine (List.pairwise_mergeSort (le := fun x y => decide (x ≤ y)) (fun a b c h1 h2 => ?_) (fun a b => ?_) l).imp fun h => by simpa using h
  · rw [decide_eq_true_eq] at h1 h2 ⊢; omega
  · rw [Bool.or_eq_true, decide_eq_true_eq, decide_eq_true_eq]; omega
theorem sortI_perm (l : List Int) : (sortI l).Perm l := List.mergeSort_perm l _
theorem rise_perm : ∀ {a b : List Int}, a.Pairwise (· ≤ ·) → b.Pairwise (· ≤ ·) → a.Perm b → a = b
  | [], b, _, _, h => by rw [h.nil_eq]
  | x :: a, [], _, _, h => by have := h.length_eq; simp at this
  | x :: a, y :: b, ha, hb, h => by
    rw [List.pairwise_cons] at ha hb
    have hx : x ∈ y :: b := h.mem_iff.1 (by simp)
    have hy : y ∈ x :: a := h.mem_iff.2 (by simp)
    have hxy : x = y := by
      rw [List.mem_cons] at hx hy
      rcases hx with rfl | hx
      · rfl
      · rcases hy with rfl | hy
        · rfl
        · have h1 := hb.1 x hx; have h2 := ha.1 y hy; omega
    subst hxy
    rw [rise_perm ha.2 hb.2 ((List.perm_cons x).1 h)]
theorem natI_rise {l : List Nat} (h : l.Pairwise (· < ·)) : (natI l).Pairwise (· ≤ ·) := by
  unfold natI
  rw [List.pairwise_map]
  exact h.imp fun hab => by omega
theorem natI_mem {l : List Nat} {x : Int} : x ∈ natI l ↔ ∃ n ∈ l, x = (n : Int) := by
  unfold natI; rw [List.mem_map]; exact ⟨fun ⟨n, h, e⟩ => ⟨n, h, e.symm⟩, fun ⟨n, h, e⟩ => ⟨n, h, e.symm⟩⟩
theorem natI_nodup {l : List Nat} (h : l.Pairwise (· < ·)) : (natI l).Nodup := by
  unfold natI
  rw [List.nodup_iff_pairwise_ne, List.pairwise_map]
  exact h.imp fun hab => by omega
theorem sort_iff {H : List Txn} {r : SRow} : sortI r.l = natI (wrsL H r.key) ↔ r.l.Perm (natI (wrsL H r.key)) := by
  constructor
  · intro h; rw [← h]; exact (sortI_perm r.l).symm
  · intro h; exact rise_perm (sortI_rise _) (natI_rise (wrsL_rise H r.key)) ((sortI_perm r.l).trans h)

/-- What is right of rows that may be. -/
structure OkS (H : List Txn) (R : List SRow) : Prop where
  right : rightH H = true
  keys : R.map (·.key) = keysL H
  perm : ∀ r ∈ R, r.l.Perm (natI (wrsL H r.key))
theorem okS_iff (H : List Txn) (R : List SRow) : rightS H R = true ↔ OkS H R := by
  unfold rightS
  rw [Bool.and_eq_true, Bool.and_eq_true, decide_eq_true_eq, List.all_eq_true]
  constructor
  · rintro ⟨⟨h1, h2⟩, h3⟩
    exact ⟨h1, h2, fun r hr => sort_iff.1 (of_decide_eq_true (h3 r hr))⟩
  · rintro ⟨h1, h2, h3⟩
    exact ⟨⟨h1, h2⟩, fun r hr => decide_eq_true (sort_iff.2 (h3 r hr))⟩
theorem OkS.nodup {H : List Txn} {R : List SRow} (h : OkS H R) {r : SRow} (hr : r ∈ R) : r.l.Nodup := (h.perm r hr).nodup_iff.2 (natI_nodup (wrsL_rise H r.key))
theorem OkS.mem {H : List Txn} {R : List SRow} (h : OkS H R) {r : SRow} (hr : r ∈ R) {x : Int} : x ∈ r.l ↔ ∃ n : Nat, x = n ∧ n < H.length ∧ r.key ∈ (txnAt H n).writes := by
  rw [(h.perm r hr).mem_iff, natI_mem]
  constructor
  · rintro ⟨n, hn, e⟩; obtain ⟨h1, h2⟩ := wrsL_mem.1 hn; exact ⟨n, e, h1, h2⟩
  · rintro ⟨n, e, h1, h2⟩; exact ⟨n, wrsL_mem.2 ⟨h1, h2⟩, e⟩
theorem OkS.nat {H : List Txn} {R : List SRow} (h : OkS H R) {r : SRow} (hr : r ∈ R) {n : Nat} (hn : n < H.length) : ((n : Nat) : Int) ∈ r.l ↔ r.key ∈ (txnAt H n).writes := by
  rw [h.mem hr]
  constructor
  · rintro ⟨m, e, h1, h2⟩; obtain rfl : n = m := by omega
    exact h2
  · intro h2; exact ⟨n, rfl, hn, h2⟩
theorem OkS.has {H : List Txn} {R : List SRow} (h : OkS H R) {k : Int} {n : Nat} (hn : n < H.length) (hk : k ∈ (txnAt H n).writes) : ∃ r ∈ R, r.key = k := by
  have : k ∈ keysL H := by rw [txnAt_of hn] at hk; exact keysL_mem.2 ⟨_, List.getElem_mem hn, hk⟩
  rw [← h.keys] at this
  obtain ⟨r, hr, e⟩ := List.mem_map.1 this
  exact ⟨r, hr, e⟩
theorem OkS.one {H : List Txn} {R : List SRow} (h : OkS H R) {r r' : SRow} (hr : r ∈ R) (hr' : r' ∈ R) (e : r.key = r'.key) : r = r' := by
  have hp := keysL_rise H
  rw [← h.keys, List.pairwise_map] at hp
  obtain ⟨i, hi, rfl⟩ := List.getElem_of_mem hr
  obtain ⟨j, hj, rfl⟩ := List.getElem_of_mem hr'
  rw [List.pairwise_iff_getElem] at hp
  rcases Nat.lt_trichotomy i j with g | g | g
  · have := hp i j hi hj g; omega
  · subst g; rfl
  · have := hp j i hj hi g; omega
theorem OkS.key {H : List Txn} {R : List SRow} (h : OkS H R) {r : SRow} (hr : r ∈ R) : 0 ≤ r.key ∧ r.key < 16 := by
  have : r.key ∈ keysL H := by rw [← h.keys]; exact List.mem_map_of_mem hr
  obtain ⟨t, ht, hk⟩ := keysL_mem.1 this
  obtain ⟨i, hi, rfl⟩ := List.getElem_of_mem ht
  exact (((rightH_iff H).1 h.right).2 i hi).wkey _ hk

/-- A number's place in a row. -/
theorem idxI_idxOf {l : List Int} {x : Int} (h : x ∈ l) : idxI l x = (l.idxOf x : Int) := by
  have hi := List.idxOf_lt_length_of_mem h
  refine idxI_hit hi (List.getElem_idxOf _) fun j hj hlt e => ?_
  have : l.idxOf x ≤ j := by
    rw [← e]
    refine Nat.le_of_not_lt fun hgt => ?_
    have := List.not_of_lt_findIdx (p := (· == l[j])) (xs := l) (i := j) (by simpa [List.idxOf] using hgt)
    simp at this
  omega
/-- The place of a transaction's write of a key, from 1 on; 0: nowhere. -/
def placeS (R : List SRow) (k : Int) (t : Int) : Int := match R.find? fun r => decide (r.key = k) with
  | some r => if r.l.contains t then (r.l.idxOf t : Int) + 1 else 0
  | none => 0
def aheadB (R : List SRow) (k a b : Int) : Bool := decide (0 < placeS R k b) && (decide (a < 0) || (decide (0 < placeS R k a) && decide (placeS R k a < placeS R k b)))
def dirS (H : List Txn) (R : List SRow) (x y : Nat) : Bool := soE H x y || redE H x y || (txnAt H x).writes.any fun k => aheadB R k (x : Int) (y : Int)
def ovrS (H : List Txn) (R : List SRow) (x y : Nat) : Bool := decide (x ≠ y) && (txnAt H x).reads.any fun r => aheadB R r.a r.b (y : Int)
/-- All to which an edge leads. -/
def nextY (H : List Txn) (R : List SRow) (x y : Nat) : List Nat := if dirS H R x y then y :: (List.range H.length).filter (ovrS H R y) else []
def nextL (H : List Txn) (R : List SRow) (x : Nat) : List Nat := ((List.range H.length).map (nextY H R x)).flatten
def nextE (H : List Txn) (R : List SRow) : Edges := fun x y => (nextL H R x).contains y
def checkS (H : List Txn) (R : List SRow) : Bool := rightS H R && !cycB H.length (nextE H R)

theorem placeS_at {H : List Txn} {R : List SRow} (h : OkS H R) {r : SRow} (hr : r ∈ R) (t : Int) : placeS R r.key t = if r.l.contains t then (r.l.idxOf t : Int) + 1 else 0 := by
  unfold placeS
  cases hf : R.find? fun x => decide (x.key = r.key) with
  | none => have := List.find?_eq_none.1 hf r hr; simp at this
  | some x =>
    have h1 := List.find?_some hf
    have h2 := List.mem_of_find?_eq_some hf
    rw [decide_eq_true_eq] at h1
    rw [h.one h2 hr h1]
theorem placeS_pos {H : List Txn} {R : List SRow} (h : OkS H R) {k : Int} {n : Nat} (hn : n < H.length) : 0 < placeS R k (n : Int) ↔ k ∈ (txnAt H n).writes := by
  constructor
  · intro hp
    unfold placeS at hp
    cases hf : R.find? fun x => decide (x.key = k) with
    | none => rw [hf] at hp; exact absurd hp (Int.lt_irrefl 0)
    | some r =>
      rw [hf] at hp
      have h1 := List.find?_some hf
      rw [decide_eq_true_eq] at h1
      subst h1
      have h2 := List.mem_of_find?_eq_some hf
      refine (h.nat h2 hn).1 ?_
      by_cases hc : r.l.contains (n : Int) = true
      · exact List.contains_iff_mem.1 hc
      · rw [Bool.not_eq_true] at hc
        simp only [hc] at hp
        exact absurd hp (Int.lt_irrefl 0)
  · intro hk
    obtain ⟨r, hr, rfl⟩ := h.has hn hk
    rw [placeS_at h hr, if_pos (List.contains_iff_mem.2 ((h.nat hr hn).2 hk))]
    omega
theorem choS_mem {H : List Txn} {R : List SRow} (h : OkS H R) {c : Cho} : c ∈ choS H R ↔ ∃ r ∈ R, ∃ p ∈ pairsK r.key (wrsL H r.key), c = ofC r.l p := by
  unfold choS
  rw [if_pos ((okS_iff H R).2 h), List.mem_flatten]
  constructor
  · rintro ⟨l, hl, hc⟩
    obtain ⟨r, hr, rfl⟩ := List.mem_map.1 hl
    obtain ⟨p, hp, e⟩ := List.mem_map.1 hc
    exact ⟨r, hr, p, hp, e.symm⟩
  · rintro ⟨r, hr, p, hp, rfl⟩
    exact ⟨_, List.mem_map_of_mem hr, List.mem_map_of_mem hp⟩
/-- A choice of rows: whose place is ahead. -/
theorem choS_iff {H : List Txn} {R : List SRow} (h : OkS H R) {k : Int} {a b : Nat} (ha : a < H.length) (hb : b < H.length) :
    (⟨k, a, b⟩ : Cho) ∈ choS H R ↔ k ∈ (txnAt H a).writes ∧ k ∈ (txnAt H b).writes ∧ placeS R k a < placeS R k b := by
  rw [choS_mem h]
  have hpl : ∀ {r : SRow}, r ∈ R → ∀ {n : Nat}, n < H.length → r.key ∈ (txnAt H n).writes → placeS R r.key (n : Int) = (r.l.idxOf (n : Int) : Int) + 1 ∧ idxI r.l (n : Int) = (r.l.idxOf (n : Int) : Int) := fun {r} hr {n} hn hk => by
    have hm := (h.nat hr hn).2 hk
    exact ⟨by rw [placeS_at h hr, if_pos (List.contains_iff_mem.2 hm)], idxI_idxOf hm⟩
  have hne : ∀ {r : SRow}, r ∈ R → ∀ {m n : Nat}, m < H.length → n < H.length → r.key ∈ (txnAt H m).writes → r.key ∈ (txnAt H n).writes → m ≠ n → r.l.idxOf (m : Int) ≠ r.l.idxOf (n : Int) := fun {r} hr {m n} hm hn hkm hkn hmn e => by
    have h1 := (h.nat hr hm).2 hkm
    have h2 := (h.nat hr hn).2 hkn
    have e1 := List.getElem_idxOf (List.idxOf_lt_length_of_mem h1)
    have e2 := List.getElem_idxOf (List.idxOf_lt_length_of_mem h2)
    have : r.l[r.l.idxOf (m : Int)]'(List.idxOf_lt_length_of_mem h1) = r.l[r.l.idxOf (n : Int)]'(List.idxOf_lt_length_of_mem h2) := by simp only [e]
    omega
  constructor
  · rintro ⟨r, hr, p, hp, e⟩
    obtain ⟨hpk, x, y, hx, hy, hxm, hym⟩ := pairsK_mem hp
    have hlt := pairsK_lt (wrsL_rise H r.key) hp
    obtain ⟨hx1, hx2⟩ := wrsL_mem.1 hxm
    obtain ⟨hy1, hy2⟩ := wrsL_mem.1 hym
    obtain ⟨px, ix⟩ := hpl hr hx1 hx2
    obtain ⟨py, iy⟩ := hpl hr hy1 hy2
    have hnd := hne hr hx1 hy1 hx2 hy2 (by omega)
    unfold ofC at e
    rw [hx, hy, ix, iy] at e
    split at e
    · next hgt =>
      injection e with e1 e2 e3
      obtain rfl : a = y := by omega
      obtain rfl : b = x := by omega
      rw [hpk] at e1
      subst e1
      exact ⟨hy2, hx2, by omega⟩
    · next hgt =>
      subst e
      obtain rfl : a = x := by have : (a : Int) = x := hx; omega
      obtain rfl : b = y := by have : (b : Int) = y := hy; omega
      have hk : k = r.key := hpk
      subst hk
      exact ⟨hx2, hy2, by omega⟩
  · rintro ⟨hka, hkb, hlt⟩
    obtain ⟨r, hr, rfl⟩ := h.has ha hka
    obtain ⟨pa, ia⟩ := hpl hr ha hka
    obtain ⟨pb, ib⟩ := hpl hr hb hkb
    have hab : a ≠ b := by rintro rfl; omega
    rcases Nat.lt_or_gt_of_ne hab with g | g
    · refine ⟨r, hr, _, pairsK_have (wrsL_rise H r.key) (wrsL_mem.2 ⟨ha, hka⟩) (wrsL_mem.2 ⟨hb, hkb⟩) g, ?_⟩
      unfold ofC
      rw [if_neg]
      show ¬ (idxI r.l (a : Int) > idxI r.l (b : Int))
      omega
    · refine ⟨r, hr, _, pairsK_have (wrsL_rise H r.key) (wrsL_mem.2 ⟨hb, hkb⟩) (wrsL_mem.2 ⟨ha, hka⟩) g, ?_⟩
      unfold ofC
      rw [if_pos]
      show idxI r.l (b : Int) > idxI r.l (a : Int)
      omega
theorem choS_nat {H : List Txn} {R : List SRow} (h : OkS H R) {c : Cho} (hc : c ∈ choS H R) : ∃ a b : Nat, c.a = a ∧ c.b = b ∧ a < H.length ∧ b < H.length := by
  obtain ⟨r, hr, p, hp, rfl⟩ := (choS_mem h).1 hc
  obtain ⟨hpk, x, y, hx, hy, hxm, hym⟩ := pairsK_mem hp
  obtain ⟨hx1, -⟩ := wrsL_mem.1 hxm
  obtain ⟨hy1, -⟩ := wrsL_mem.1 hym
  unfold ofC
  split
  · exact ⟨y, x, hy, hx, hy1, hx1⟩
  · exact ⟨x, y, hx, hy, hx1, hy1⟩
/-- The row's graph is the graph of its choices. -/
theorem dirS_eq {H : List Txn} {R : List SRow} (h : OkS H R) {x y : Nat} (hx : x < H.length) (hy : y < H.length) : dirS H R x y = orE (pastE H) (wwE (choS H R)) x y := by
  have hr := (rightH_iff H).1 h.right
  rw [Bool.eq_iff_iff]
  unfold dirS pastE orE
  rw [Bool.or_eq_true, Bool.or_eq_true, Bool.or_eq_true, Bool.or_eq_true]
  refine or_congr (or_congr Iff.rfl ?_) ?_
  · unfold redE wrE
    rw [Bool.and_eq_true, decide_eq_true_eq]
    refine ⟨fun hm => ⟨?_, hm⟩, And.right⟩
    rintro rfl
    rw [List.any_eq_true] at hm
    obtain ⟨r, hr1, hr2⟩ := hm
    have hr2 := of_decide_eq_true hr2
    rw [txnAt_of hx] at hr1
    have ht := (hr.2 x hx).there r hr1
    rcases (thereB_iff H x r).1 ht with e | ⟨k, hk, e, hne, -⟩
    · omega
    · omega
  · unfold wwE
    rw [List.any_eq_true, List.any_eq_true]
    constructor
    · rintro ⟨k, hk, ha⟩
      unfold aheadB at ha
      rw [Bool.and_eq_true, Bool.or_eq_true, Bool.and_eq_true] at ha
      simp only [decide_eq_true_eq] at ha
      obtain ⟨h1, h2⟩ := ha
      have h3 : placeS R k (x : Int) < placeS R k (y : Int) := by rcases h2 with h2 | h2 <;> omega
      exact ⟨⟨k, x, y⟩, (choS_iff h hx hy).2 ⟨hk, (placeS_pos h hy).1 h1, h3⟩, by simp⟩
    · rintro ⟨⟨k, a, b⟩, hc, hab⟩
      rw [Bool.and_eq_true, decide_eq_true_eq, decide_eq_true_eq] at hab
      obtain ⟨rfl, rfl⟩ := hab
      obtain ⟨h1, h2, h3⟩ := (choS_iff h hx hy).1 hc
      have h4 := (placeS_pos h hx).2 h1
      have h5 := (placeS_pos h hy).2 h2
      refine ⟨k, h1, ?_⟩
      unfold aheadB
      rw [Bool.and_eq_true, Bool.or_eq_true, Bool.and_eq_true]
      simp only [decide_eq_true_eq]
      exact ⟨h5, .inr ⟨h4, h3⟩⟩
theorem ovrS_eq {H : List Txn} {R : List SRow} (h : OkS H R) {x y : Nat} (hx : x < H.length) (hy : y < H.length) : ovrS H R x y = rwE H (choS H R) x y := by
  have hr := (rightH_iff H).1 h.right
  rw [Bool.eq_iff_iff]
  unfold ovrS rwE initE
  rw [Bool.and_eq_true, Bool.or_eq_true, Bool.and_eq_true, List.any_eq_true, List.any_eq_true, List.any_eq_true, decide_eq_true_eq]
  have hthere : ∀ r ∈ (txnAt H x).reads, r.b = -1 ∨ ∃ k, ∃ hk : k < H.length, r.b = (k : Int) ∧ k ≠ x ∧ r.a ∈ H[k].writes := fun r hr1 => by
    rw [txnAt_of hx] at hr1
    exact (thereB_iff H x r).1 ((hr.2 x hx).there r hr1)
  constructor
  · rintro ⟨hne, r, hr1, ha⟩
    unfold aheadB at ha
    rw [Bool.and_eq_true, Bool.or_eq_true, Bool.and_eq_true] at ha
    simp only [decide_eq_true_eq] at ha
    obtain ⟨h1, h2⟩ := ha
    have hky := (placeS_pos h hy).1 h1
    rcases hthere r hr1 with e | ⟨k, hk, e, hkx, hkw⟩
    · refine .inl ⟨hne, r, hr1, ?_⟩
      rw [Bool.and_eq_true, decide_eq_true_eq, List.contains_iff_mem]
      exact ⟨e, hky⟩
    · have h3 : 0 < placeS R r.a r.b ∧ placeS R r.a r.b < placeS R r.a (y : Int) := by
        rcases h2 with h2 | h2
        · omega
        · exact h2
      rw [e] at h3
      refine .inr ⟨⟨r.a, k, y⟩, (choS_iff h hk hy).2 ⟨(placeS_pos h hk).1 h3.1, hky, h3.2⟩, ?_⟩
      rw [Bool.and_eq_true, Bool.and_eq_true, List.any_eq_true]
      simp only [decide_eq_true_eq]
      refine ⟨⟨trivial, hne⟩, r, hr1, ?_⟩
      rw [Bool.and_eq_true, decide_eq_true_eq, decide_eq_true_eq]
      exact ⟨rfl, e⟩
  · rintro (⟨hne, r, hr1, h2⟩ | ⟨c, hc, h2⟩)
    · rw [Bool.and_eq_true, decide_eq_true_eq, List.contains_iff_mem] at h2
      refine ⟨hne, r, hr1, ?_⟩
      unfold aheadB
      rw [Bool.and_eq_true, Bool.or_eq_true]
      simp only [decide_eq_true_eq]
      exact ⟨(placeS_pos h hy).2 h2.2, .inl (by omega)⟩
    · rw [Bool.and_eq_true, Bool.and_eq_true, List.any_eq_true] at h2
      simp only [decide_eq_true_eq] at h2
      obtain ⟨⟨hb, hne⟩, r, hr1, h3⟩ := h2
      rw [Bool.and_eq_true, decide_eq_true_eq, decide_eq_true_eq] at h3
      obtain ⟨a, b, e1, e2, ha, hb'⟩ := choS_nat h hc
      obtain ⟨k, ca, cb⟩ := c
      simp only at hb h3 e1 e2
      subst e1; subst e2
      obtain rfl : b = y := by omega
      obtain ⟨g1, g2, g3⟩ := (choS_iff h ha hb').1 hc
      refine ⟨hne, r, hr1, ?_⟩
      unfold aheadB
      rw [h3.1, h3.2, Bool.and_eq_true, Bool.or_eq_true, Bool.and_eq_true]
      simp only [decide_eq_true_eq]
      exact ⟨(placeS_pos h hb').2 g2, .inr ⟨(placeS_pos h ha).2 g1, g3⟩⟩
theorem nextE_iff {H : List Txn} {R : List SRow} {x z : Nat} : nextE H R x z = true ↔ z < H.length ∧ (dirS H R x z = true ∨ ∃ y, y < H.length ∧ dirS H R x y = true ∧ ovrS H R y z = true) := by
  unfold nextE nextL
  rw [List.contains_iff_mem, List.mem_flatten]
  constructor
  · rintro ⟨l, hl, hz⟩
    obtain ⟨y, hy, rfl⟩ := List.mem_map.1 hl
    have hy := List.mem_range.1 hy
    unfold nextY at hz
    split at hz
    · next hd =>
      rw [List.mem_cons] at hz
      rcases hz with rfl | hz
      · exact ⟨hy, .inl hd⟩
      · obtain ⟨h1, h2⟩ := List.mem_filter.1 hz
        exact ⟨List.mem_range.1 h1, .inr ⟨y, hy, hd, h2⟩⟩
    · cases hz
  · rintro ⟨hz, hd | ⟨y, hy, hd, ho⟩⟩
    · refine ⟨_, List.mem_map.2 ⟨z, List.mem_range.2 hz, rfl⟩, ?_⟩
      unfold nextY
      rw [if_pos hd]; simp
    · refine ⟨_, List.mem_map.2 ⟨y, List.mem_range.2 hy, rfl⟩, ?_⟩
      unfold nextY
      rw [if_pos hd, List.mem_cons]
      exact .inr (List.mem_filter.2 ⟨List.mem_range.2 hz, ho⟩)
theorem nextE_eq {H : List Txn} {R : List SRow} (h : OkS H R) {x z : Nat} (hx : x < H.length) (hz : z < H.length) : nextE H R x z = fullE H 1 (choS H R) x z := by
  have hf : fullE H 1 (choS H R) x z = (orE (pastE H) (wwE (choS H R)) x z || thenE H.length (orE (pastE H) (wwE (choS H R))) (rwE H (choS H R)) x z) := rfl
  rw [Bool.eq_iff_iff, nextE_iff, hf, Bool.or_eq_true, ← dirS_eq h hx hz]
  unfold thenE
  rw [List.any_eq_true]
  constructor
  · rintro ⟨_, hd | ⟨y, hy, hd, ho⟩⟩
    · exact .inl hd
    · exact .inr ⟨y, List.mem_range.2 hy, by rw [Bool.and_eq_true, ← dirS_eq h hx hy, ← ovrS_eq h hy hz]; exact ⟨hd, ho⟩⟩
  · rintro (hd | ⟨y, hy, hd⟩)
    · exact ⟨hz, .inl hd⟩
    · have hy := List.mem_range.1 hy
      rw [Bool.and_eq_true, ← dirS_eq h hx hy, ← ovrS_eq h hy hz] at hd
      exact ⟨hz, .inr ⟨y, hy, hd.1, hd.2⟩⟩
theorem wayB_congr {n : Nat} {E F : Edges} (h : ∀ x y, x < n → y < n → E x y = F x y) : ∀ (l : List Nat) (x y : Nat), x < n → y < n → (∀ a ∈ l, a < n) → wayB E x l y = wayB F x l y
  | [], x, y, hx, hy, _ => h x y hx hy
  | a :: l, x, y, hx, hy, hl => by
    show (E x a && wayB E a l y) = (F x a && wayB F a l y)
    rw [h x a hx (hl a (by simp)), wayB_congr h l a y (hl a (by simp)) hy fun b hb => hl b (by simp [hb])]
theorem cyc_sub {n : Nat} {E F : Edges} (h : ∀ x y, x < n → y < n → E x y = F x y) (hc : cycB n E = true) : cycB n F = true := by
  unfold cycB at hc ⊢
  rw [List.any_eq_true] at hc ⊢
  obtain ⟨x, hx, hc⟩ := hc
  have hxn := List.mem_range.1 hx
  obtain ⟨l, hl, hw⟩ := cloTo_way n x x hc
  rw [wayB_congr h l x x hxn hxn hl] at hw
  exact ⟨x, hx, way_cloTo n l.length l x x (Nat.le_refl _) hl hw⟩
theorem cyc_congr {n : Nat} {E F : Edges} (h : ∀ x y, x < n → y < n → E x y = F x y) : cycB n E = cycB n F := by
  rw [Bool.eq_iff_iff]
  exact ⟨cyc_sub h, cyc_sub fun x y hx hy => (h x y hx hy).symm⟩
/-- Rows show snapshots just if nothing leads back in the graph of their choices. -/
theorem checkS_good (H : List Txn) (R : List SRow) : checkS H R = (rightS H R && goodB H 1 (choS H R)) := by
  unfold checkS goodB
  cases hr : rightS H R with
  | false => rfl
  | true => rw [Bool.true_and, Bool.true_and, cyc_congr fun x y hx hy => nextE_eq ((okS_iff H R).1 hr) hx hy]
end Go.Proofs.YtfhnamomiaekdaaGreat
