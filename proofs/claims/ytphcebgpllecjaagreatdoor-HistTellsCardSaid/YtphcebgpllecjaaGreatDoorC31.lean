/-
  Walks: inner.Look.
-/
import Derived.Test.YtphcebgpllecjaaGreatDoorC09
set_option linter.unusedVariables false
set_option linter.unusedSimpArgs false
namespace Go.Proofs.YtphcebgpllecjaaGreatDoor
open Go.RowKit Go.Inq
set_option maxHeartbeats 4000000
attribute [local go_sem ↓] Go.wp_at_zero Go.wp_at_succ

theorem put_any {gv pv : Value} {K : Nat} {wc : World} (F o base : Nat) (v0 v1 ov : Value) (l : List It) (k val : Int) (w : World) (hc : CellOut F o l k K gv pv wc) (hb : Below wc.heap.size wc w) (ho : #[v0, v1][o]? = some ov)
    (hF : Blk w F 86 #[v0, v1]) (hown : w.ownsRow base 91 2 ov l.length (l.map It.enc).flatten) (hFb : F < base) (hn : l.length ≤ 1000000) (hbase : base ≤ w.heap.size) (hK : ∀ g, ov.ownBlock = some g → g < K) (hKF : F < K) :
    ∃ gi gl gt gk, pv = .func (.func 81) #[] #[.pointer (some ⟨gi, 0, none⟩), .pointer (some ⟨gl, 0, none⟩), .pointer (some ⟨gt, 0, none⟩), .pointer (some ⟨gk, 0, none⟩)] ∧
      Calls Tryz.prog 81 #[.int .i64 val, .pointer (some ⟨gi, 0, none⟩), .pointer (some ⟨gl, 0, none⟩), .pointer (some ⟨gt, 0, none⟩), .pointer (some ⟨gk, 0, none⟩)] w fun e w' => e = .returned (.tuple #[]) ∧ PutOut F o base v0 v1 ov (putI l k val) w w' := by
  obtain ⟨gi, gl, gt, gk, rfl, rfl, ⟨h1, h2, h3, h4⟩, ci, cl, ct, ck⟩ := hc
  refine ⟨gi, gl, gt, gk, rfl, ?_⟩
  have far : ∀ b u, wc.cell? ⟨b, 0, none⟩ = some u → w.cell? ⟨b, 0, none⟩ = some u := fun b u h => (hb.cell (p := ⟨b, 0, none⟩) (block_lt_of_cell h)).trans h
  have hFo : ov.ownBlock ≠ some F := fun e => by have := (hown.lt _ e).1; omega
  have ne : ∀ b, K ≤ b → ov.ownBlock ≠ some b := fun b hb e => by have := hK _ e; omega
  cases hh : hasI l k with
  | true => exact put_has gi gl gt gk F o base v0 v1 ov l k val w ho (far _ _ ci) (far _ _ cl) (far _ _ ct) hF hown hFo hn hh
  | false => exact put_new gi gl gt gk F o base v0 v1 ov l k val w ho (far _ _ ci) (far _ _ cl) (far _ _ ct) (far _ _ ck) hF hown hFo hn hbase hh (ne _ h1) (ne _ h2) (ne _ h3) (ne _ h4) (by omega) (by omega) (by omega)

theorem get_of {gv pv : Value} {K : Nat} {wc : World} (F o : Nat) (A : Option Addr) (c : Nat) (l : List It) (k : Int) (w : World) (hc : CellOut F o l k K gv pv wc) (hb : Below wc.heap.size wc w)
    (hF : w.cell? ⟨F, o, none⟩ = some (.slice A l.length c)) (h : ItS w (Old w) (.slice A l.length c) l) (hn : l.length ≤ 1000000) :
    ∃ gi gl gt, gv = .func (.func 80) #[] #[.pointer (some ⟨gi, 0, none⟩), .pointer (some ⟨gl, 0, none⟩), .pointer (some ⟨gt, 0, none⟩)] ∧
      Calls Tryz.prog 80 #[.pointer (some ⟨gi, 0, none⟩), .pointer (some ⟨gl, 0, none⟩), .pointer (some ⟨gt, 0, none⟩)] w fun e w' => e = .returned (.tuple #[.int .i64 (getI l k), .bool (hasI l k)]) ∧ Below w.heap.size w w' := by
  obtain ⟨gi, gl, gt, gk, rfl, rfl, _, ci, cl, ct, ck⟩ := hc
  have far : ∀ b u, wc.cell? ⟨b, 0, none⟩ = some u → w.cell? ⟨b, 0, none⟩ = some u := fun b u h => (hb.cell (p := ⟨b, 0, none⟩) (block_lt_of_cell h)).trans h
  exact ⟨gi, gl, gt, rfl, get_any gi gl gt F o A c l k w (far _ _ ci) (far _ _ cl) (far _ _ ct) hF h hn⟩

theorem its_of_own {w : World} {base : Nat} {v : Value} {l : List It} (h : w.ownsRow base 91 2 v l.length (l.map It.enc).flatten) {K : Nat → Prop} (hK : ∀ g, base ≤ g → g < w.heap.size → K g) : ItS w K v l :=
  SlR.of_flat h rfl (fun _ => rfl) hK

/-- The look's memory: the argument, the result's cells, the face. -/
def LS (tx : Array Value) (w wx : World) (r s : Int → Option Int) : Prop :=
  ∃ rv wv, Blk wx w.heap.size 49 tx ∧ Blk wx (w.heap.size + 1) 86 #[.slice none 0 0, .slice none 0 0] ∧ Blk wx (w.heap.size + 2) 86 #[rv, wv] ∧
    wx.ownsRow (w.heap.size + 3) 91 2 rv (rng r).length ((rng r).map It.enc).flatten ∧ wx.ownsRow (w.heap.size + 3) 91 2 wv (rng s).length ((rng s).map It.enc).flatten ∧
    (∀ g, rv.ownBlock = some g → wv.ownBlock ≠ some g) ∧ Below w.heap.size w wx

theorem LS_below {tx : Array Value} {w wx w' : World} {r s : Int → Option Int} (h : LS tx w wx r s) (hb : Below wx.heap.size wx w') : LS tx w w' r s := by
  obtain ⟨rv, wv, h1, h2, h3, h4, h5, h6, h7⟩ := h
  exact ⟨rv, wv, h1.below hb h1.lt, h2.below hb h2.lt, h3.below hb h3.lt, own_below h4 hb (Nat.le_refl _), own_below h5 hb (Nat.le_refl _), h6, h7.trans (hb.mono h7.size)⟩

theorem heap_own {w w' : World} {base : Nat} {e : TypeId} {size n : Nat} {v : Value} {xs : List Value} (h : w.ownsRow base e size v n xs) (hh : ∀ g, v.ownBlock = some g → w'.heap[g]? = w.heap[g]?) : w'.ownsRow base e size v n xs := by
  refine ⟨h.1, ?_⟩
  rcases h.2 with h2 | ⟨g, cap, cur, hv, hg, hx, rest⟩
  · exact .inl h2
  · exact .inr ⟨g, cap, cur, hv, hg, by rw [hh g (by rw [hv]; rfl)]; exact hx, rest⟩

theorem LS_write {tx : Array Value} {w wx w' : World} {r s s' : Int → Option Int} {rv wv : Value} (h1 : Blk wx w.heap.size 49 tx) (h2 : Blk wx (w.heap.size + 1) 86 #[.slice none 0 0, .slice none 0 0])
    (h4 : wx.ownsRow (w.heap.size + 3) 91 2 rv (rng r).length ((rng r).map It.enc).flatten) (h5 : wx.ownsRow (w.heap.size + 3) 91 2 wv (rng s).length ((rng s).map It.enc).flatten)
    (h6 : ∀ g, rv.ownBlock = some g → wv.ownBlock ≠ some g) (h7 : Below w.heap.size w wx) (hp : PutOut (w.heap.size + 2) 1 (w.heap.size + 3) rv wv wv (rng s') wx w') : LS tx w w' r s' := by
  obtain ⟨v', p1, p2, p3, p4, p5, p6, p7, p8⟩ := hp
  have hb5 : ∀ g, wv.ownBlock = some g → w.heap.size + 3 ≤ g := fun g hg => (h5.lt g hg).1
  have hb4 : ∀ g, rv.ownBlock = some g → w.heap.size + 3 ≤ g ∧ g < wx.heap.size := fun g hg => h4.lt g hg
  have low : ∀ b, b < wx.heap.size → b < w.heap.size + 2 → w'.heap[b]? = wx.heap[b]? := fun b hb h => p3 b hb (by omega) (fun e => by have := hb5 b e.symm; omega)
  refine ⟨rv, v', (low _ h1.lt (by omega)).trans h1, (low _ h2.lt (by omega)).trans h2, by simpa using p1, heap_own h4 (fun g hg => p3 g (hb4 g hg).2 (by have := (hb4 g hg).1; omega) (fun e => h6 g hg e.symm)), p2, fun g hg hv => ?_, ⟨p5.trans h7.os, p6.trans h7.tape, p7.trans h7.output, Nat.le_trans h7.size p4, fun b hb => (low b (Nat.lt_of_lt_of_le hb h7.size) (by omega)).trans (h7.block b hb)⟩⟩
  rcases p8 g hv with h | h
  · exact h6 g hg h
  · have := (hb4 g hg).2; omega

theorem LS_read {tx : Array Value} {w wx w' : World} {r s r' : Int → Option Int} {rv wv : Value} (h1 : Blk wx w.heap.size 49 tx) (h2 : Blk wx (w.heap.size + 1) 86 #[.slice none 0 0, .slice none 0 0])
    (h4 : wx.ownsRow (w.heap.size + 3) 91 2 rv (rng r).length ((rng r).map It.enc).flatten) (h5 : wx.ownsRow (w.heap.size + 3) 91 2 wv (rng s).length ((rng s).map It.enc).flatten)
    (h6 : ∀ g, rv.ownBlock = some g → wv.ownBlock ≠ some g) (h7 : Below w.heap.size w wx) (hp : PutOut (w.heap.size + 2) 0 (w.heap.size + 3) rv wv rv (rng r') wx w') : LS tx w w' r' s := by
  obtain ⟨v', p1, p2, p3, p4, p5, p6, p7, p8⟩ := hp
  have hb4 : ∀ g, rv.ownBlock = some g → w.heap.size + 3 ≤ g := fun g hg => (h4.lt g hg).1
  have hb5 : ∀ g, wv.ownBlock = some g → w.heap.size + 3 ≤ g ∧ g < wx.heap.size := fun g hg => h5.lt g hg
  have low : ∀ b, b < wx.heap.size → b < w.heap.size + 2 → w'.heap[b]? = wx.heap[b]? := fun b hb h => p3 b hb (by omega) (fun e => by have := hb4 b e.symm; omega)
  refine ⟨v', wv, (low _ h1.lt (by omega)).trans h1, (low _ h2.lt (by omega)).trans h2, by simpa using p1, p2, heap_own h5 (fun g hg => p3 g (hb5 g hg).2 (by have := (hb5 g hg).1; omega) (fun e => h6 g e.symm hg)), fun g hg hv => ?_, ⟨p5.trans h7.os, p6.trans h7.tape, p7.trans h7.output, Nat.le_trans h7.size p4, fun b hb => (low b (Nat.lt_of_lt_of_le hb h7.size) (by omega)).trans (h7.block b hb)⟩⟩
  rcases p8 g hg with h | h
  · exact h6 g h hv
  · have := (hb5 g hv).2; omega

/-- What inner.Look answers. -/
def LookPost (l : List Ev) (w : World) (e : Ending) (w' : World) : Prop :=
  ∃ rv wv, e = .returned (.tuple #[.agg #[rv, wv], .int .i64 (lookR l).at_, .int .i64 (lookR l).err]) ∧
    ItS w' (fun b => w.heap.size ≤ b ∧ b < w'.heap.size) rv (lookR l).reads ∧ ItS w' (fun b => w.heap.size ≤ b ∧ b < w'.heap.size) wv (lookR l).writes ∧ Below w.heap.size w w'

theorem LookPost_bad {l : List Ev} {w w' : World} {i : Nat} {e : Int} (h : lookR l = ⟨[], [], i, e⟩) (hb : Below w.heap.size w w') : LookPost l w (.returned (.tuple #[.agg #[.slice none 0 0, .slice none 0 0], .int .i64 i, .int .i64 e])) w' := by
  unfold LookPost
  rw [h]
  exact ⟨_, _, rfl, SlR.nil _ _ _ _ _ _, SlR.nil _ _ _ _ _ _, hb⟩

set_option maxRecDepth 100000 in
theorem look_any (s f : Int) (d : Bool) (A : Option Addr) (c : Nat) (l : List Ev) (w : World) (h : EvS w (Old w) (.slice A l.length c) l) (hn : l.length ≤ 1000000) :
    Calls Tryz.prog 35 #[.agg #[.int .i64 s, .bool d, .int .i64 f, .slice A l.length c]] w (LookPost l w) := by
  have hS0 : LS #[.int .i64 s, .bool d, .int .i64 f, .slice A l.length c] w (((w.alloc (.cells #[.int .i64 s, .bool d, .int .i64 f, .slice A l.length c] 49)).alloc (.cells #[.slice none 0 0, .slice none 0 0] 86)).alloc (.cells #[.slice none 0 0, .slice none 0 0] 86)) (fR l 0) (fW l 0) := by
    refine ⟨_, _, ((Blk.new _ _ _).alloc _).alloc _, ?_, ?_, World.ownsRow_nil _ _ _ _, World.ownsRow_nil _ _ _ _, fun g hg => by simp [Value.ownBlock] at hg, ?_⟩
    · have := (Blk.new (w.alloc (.cells #[.int .i64 s, .bool d, .int .i64 f, .slice A l.length c] 49)) 86 #[.slice none 0 0, .slice none 0 0]).alloc (.cells #[.slice none 0 0, .slice none 0 0] 86)
      simpa using this
    · have := (Blk.new ((w.alloc (.cells #[.int .i64 s, .bool d, .int .i64 f, .slice A l.length c] 49)).alloc (.cells #[.slice none 0 0, .slice none 0 0] 86)) 86 #[.slice none 0 0, .slice none 0 0])
      simpa using this
    · exact (((Below.refl _ _).alloc (Nat.le_refl _) _).alloc (by simp) _).alloc (by simp; omega) _
  go_enter Tryz.func35, Tryz.ntmps35
  go_wp2
  generalize hW : (((w.alloc (.cells #[.int .i64 s, .bool d, .int .i64 f, .slice A l.length c] 49)).alloc (.cells #[.slice none 0 0, .slice none 0 0] 86)).alloc (.cells #[.slice none 0 0, .slice none 0 0] 86)) = W at *
  clear hW
  rw [show w.heap.size + 1 + 1 = w.heap.size + 2 from rfl]
  go_loopw [21] (fun s21 wr => ∃ i : Nat, i ≤ l.length ∧ s21 = .int .i64 i ∧ Hid (∀ j, j < i → wrongAt l j = 0) ∧ LS #[.int .i64 s, .bool d, .int .i64 f, .slice A l.length c] w wr (fR l i) (fW l i)) (fun s21 _ => l.length - (intOf s21).toNat)
  case atStart => exact ⟨0, Nat.zero_le _, by go_num, fun j hj => absurd hj (by omega), hS0⟩
  case round =>
    clear hS0
    clear W
    obtain ⟨i, hi, rfl, hall, rv, wv, bT, bR, bF, oR, oW, hdis, hb⟩ := hrel
    by_cases hlt : i < l.length
    · have hwr : EvS wr (Old w) (.slice A l.length c) l := EvS.keep h (Agree.below hb fun _ hh => hh) fun _ hh => hh
      have hl : Hid (l[i]? = some l[i]) := List.getElem?_eq_getElem hlt
      obtain ⟨b, off, rfl, hbK, c0, c1, c2, c3⟩ := EvS.at_ hwr hlt
      generalize l[i] = x at *
      have hbK2 : b < w.heap.size := hbK
      have hR2 : Hid (ItS wr (fun b => b < wr.heap.size) rv (rng (fR l i)) ∧ ItS wr (fun b => b < wr.heap.size) wv (rng (fW l i))) := ⟨its_of_own oR (fun g _ h => h), its_of_own oW (fun g _ h => h)⟩
      obtain ⟨Aw, cw, rfl⟩ := own_slice oW
      obtain ⟨Ar, cr, rfl⟩ := own_slice oR
      have sz := bF.lt
      go_wp2_with fail
      refine (right_any x _).mono ?_
      rintro e w1 ⟨rfl, hb1⟩
      have B1 : Below wr.heap.size wr w1 := ((Below.refl _ _).alloc (Nat.le_refl _) _).trans (hb1.mono (by simp))
      have bE : Blk w1 wr.heap.size 56 #[.int .i64 x.kind, .int .i64 x.sess, .int .i64 x.key, .int .i64 x.val] := (Blk.new wr _ _).below hb1 (by simp)
      have s1 : wr.heap.size < w1.heap.size := bE.lt
      clear hb1
      have e0 := bE.cell 0
      have e1 := bE.cell 1
      have e2 := bE.cell 2
      have e3 := bE.cell 3
      have r0 := (bR.below B1 bR.lt).cell 0
      have r1 := (bR.below B1 bR.lt).cell 1
      have z0 := (bR.below B1 bR.lt).frozen 0
      have z1 := (bR.below B1 bR.lt).frozen 1
      simp at e0 e1 e2 e3 r0 r1
      have hbw : Below w.heap.size w w1 := hb.trans (B1.mono hb.size)
      by_cases hr : x.right = true
      · by_cases hk : x.kind = 1 ∨ x.kind = 2
        · obtain ⟨k, hk16, hkey⟩ := right_key hr hk
          have g1 : getI (rng (fW l i)) x.key = (fW l i x.key).getD 0 := by rw [hkey]; exact rng_get _ hk16
          have g2 : hasI (rng (fW l i)) x.key = (fW l i x.key).isSome := by rw [hkey]; exact rng_has _ hk16
          have g3 : getI (rng (fR l i)) x.key = (fR l i x.key).getD 0 := by rw [hkey]; exact rng_get _ hk16
          have g4 : hasI (rng (fR l i)) x.key = (fR l i x.key).isSome := by rw [hkey]; exact rng_has _ hk16
          have hput : ∀ (f : Int → Option Int), putI (rng f) x.key x.val = rng (upd f x.key x.val) := by rw [hkey]; exact fun f => rng_put f hk16 x.val
          have hk := hide hk
          clear hkey hk16
          have q0 := (bF.below B1 bF.lt).cell 0
          have q1 := (bF.below B1 bF.lt).cell 1
          simp at q0 q1
          have oW1 := own_below oW B1 (Nat.le_refl _)
          have oR1 := own_below oR B1 (Nat.le_refl _)
          have lenW := Nat.le_trans (rng_len (fW l i)) (show 16 ≤ 1000000 by omega)
          have lenR := Nat.le_trans (rng_len (fR l i)) (show 16 ≤ 1000000 by omega)
          have iW : ItS w1 (Old w1) (.slice Aw (rng (fW l i)).length cw) (rng (fW l i)) := its_of_own oW1 (fun g _ h => h)
          have iR : ItS w1 (Old w1) (.slice Ar (rng (fR l i)).length cr) (rng (fR l i)) := its_of_own oR1 (fun g _ h => h)
          rw [hr]
          rcases hk.out with hk1 | hk2
          · go_wp2_with fail
            refine (cell_any (w.heap.size + 2) 1 Aw cw (rng (fW l i)) x.key w1 q1 iW (rng_rising _) lenW).mono ?_
            rintro e w2 ⟨gv, pv, rfl, hc2, hb2⟩
            have e2' := (hb2.cell (p := ⟨wr.heap.size, 2, none⟩) s1).trans e2
            have q0' := (hb2.cell (p := ⟨w.heap.size + 2, 0, none⟩) (by simp; omega)).trans q0
            go_wp2_with fail
            refine (cell_any (w.heap.size + 2) 0 Ar cr (rng (fR l i)) x.key w2 q0' (ItS.below iR hb2) (rng_rising _) lenR).mono ?_
            rintro e w3 ⟨gv', pv', rfl, hc3, hb3⟩
            have hb13 := hb2.trans (hb3.mono hb2.size)
            clear e2' q0'
            obtain ⟨a1, a2, a3, rfl, hget1⟩ := get_of (w.heap.size + 2) 1 Aw cw (rng (fW l i)) x.key w3 hc2 hb3 ((hb13.cell (p := ⟨w.heap.size + 2, 1, none⟩) (by simp; omega)).trans q1) (ItS.below iW hb13) lenW
            rw [g1, g2] at hget1
            go_wp2_with fail
            refine hget1.mono ?_
            rintro e w4 ⟨rfl, hb4⟩
            clear hget1
            have hb14 := hb13.trans (hb4.mono hb13.size)
            obtain ⟨a4, a5, a6, rfl, hget2⟩ := get_of (w.heap.size + 2) 0 Ar cr (rng (fR l i)) x.key w4 hc3 hb4 ((hb14.cell (p := ⟨w.heap.size + 2, 0, none⟩) (by simp; omega)).trans q0) (ItS.below iR hb14) lenR
            rw [g3, g4] at hget2
            go_wp2_with fail
            refine hget2.mono ?_
            rintro e w5 ⟨rfl, hb5⟩
            clear hget2
            have hb15 := hb14.trans (hb5.mono hb14.size)
            have s12 : wr.heap.size < w2.heap.size := Nat.lt_of_lt_of_le s1 hb2.size
            have hb25 : Below w2.heap.size w2 w5 := (hb3.trans (hb4.mono hb3.size)).trans (hb5.mono (Nat.le_trans hb3.size hb4.size))
            have hb35 : Below w3.heap.size w3 w5 := hb4.trans (hb5.mono hb4.size)
            have B5 : Below wr.heap.size wr w5 := B1.trans (hb15.mono B1.size)
            have bE5 := bE.below hb15 s1
            have s5 : w1.heap.size ≤ w5.heap.size := hb15.size
            have s6 : wr.heap.size < w5.heap.size := by omega
            clear e0 e1 e2 e3 q0 q1 r0 r1 z0 z1 iW iR oW1 oR1 hb2 hb3 hb4 hb5 hb13 hb14 g1 g2 g3 g4
            have e0 := bE5.cell 0
            have e1 := bE5.cell 1
            have e2 := bE5.cell 2
            have e3 := bE5.cell 3
            simp at e0 e1 e2 e3
            go_upto_region 14 with fail
            have B6 : Below wr.heap.size wr (w5.alloc (.cells #[.int .i64 2, .int .i64 x.sess, .int .i64 x.key, .int .i64 x.val] 56)) := B5.alloc (by omega) _
            have bE6 := bE5.alloc (.cells #[.int .i64 2, .int .i64 x.sess, .int .i64 x.key, .int .i64 x.val] 56)
            have bL : Blk (w5.alloc (.cells #[.int .i64 2, .int .i64 x.sess, .int .i64 x.key, .int .i64 x.val] 56)) w5.heap.size 56 #[.int .i64 2, .int .i64 x.sess, .int .i64 x.key, .int .i64 x.val] := Blk.new _ _ _
            have hb36 : Below w3.heap.size w3 (w5.alloc (.cells #[.int .i64 2, .int .i64 x.sess, .int .i64 x.key, .int .i64 x.val] 56)) := hb35.alloc hb35.size _
            have s7 : (w5.alloc (.cells #[.int .i64 2, .int .i64 x.sess, .int .i64 x.key, .int .i64 x.val] 56)).heap.size = w5.heap.size + 1 := by simp
            generalize (w5.alloc (.cells #[.int .i64 2, .int .i64 x.sess, .int .i64 x.key, .int .i64 x.val] 56)) = w6 at *
            have hbw6 := hb.trans (B6.mono hb.size)
            have hsame : fR l (i + 1) = fR l i → fW l (i + 1) = fW l i → LS #[.int .i64 s, .bool d, .int .i64 f, .slice (some ⟨b, off, none⟩) l.length c] w w6 (fR l (i + 1)) (fW l (i + 1)) := fun h1 h2 => by
              rw [h1, h2]
              exact LS_below ⟨_, _, bT, bR, bF, oR, oW, hdis, hb⟩ B6
            have hnext : wrongAt l i = 0 → ∀ j, j < i + 1 → wrongAt l j = 0 := fun h0 j hj => by
              by_cases hje : j = i
              · subst hje; exact h0
              · exact hall.out j (by omega)
            have hsame := hide hsame
            have hnext := hide hnext
            clear e0 e1 e2 e3
            have e0 := bE6.cell 0
            have e3 := bE6.cell 3
            have r0 := (bR.below B6 bR.lt).cell 0
            have r1 := (bR.below B6 bR.lt).cell 1
            have z0 := (bR.below B6 bR.lt).frozen 0
            have z1 := (bR.below B6 bR.lt).frozen 1
            have t3 := (bT.below B6 bT.lt).cell 3
            simp at e0 e3 r0 r1 t3
            obtain ⟨own, hw⟩ | hw : (∃ own, fW l i x.key = some own) ∨ fW l i x.key = none := by
              cases hq : fW l i x.key with
              | none => exact .inr rfl
              | some own => exact .inl ⟨own, rfl⟩
            · simp only [hw, Option.getD_some, Option.isSome_some]
              by_cases hv : own = x.val
              · have hv' := hide (step_mine hlt hl.out hr hk1 hw hv)
                subst hv
                clear hw
                go_wp2
                go_roundw
                case rel => exact ⟨i + 1, by omega, by go_num, hnext.out hv'.out.1, hsame.out hv'.out.2.1 hv'.out.2.2⟩
                case measure => simp [intOf]; omega
              · have hbad : Hid (lookR l = ⟨[], [], i, 10⟩) := lookR_wrong hlt hall.out (step_own hlt hl.out hr hk1 hw hv) (by decide)
                clear hw
                go_wp2
                refine bodyPost_ret (v := .tuple #[.agg #[.slice none 0 0, .slice none 0 0], .int .i64 i, .int .i64 10]) (by simp [results, Tryz.results35, go_sem, r0, r1]) rfl ?_
                exact LookPost_bad hbad.out ((hbw6.setCell (by simp) _).setCell (by simp) _)
            · simp only [hw, Option.getD_none, Option.isSome_none]
              obtain ⟨old, hf⟩ | hf : (∃ old, fR l i x.key = some old) ∨ fR l i x.key = none := by
                cases hq : fR l i x.key with
                | none => exact .inr rfl
                | some own => exact .inl ⟨own, rfl⟩
              · simp only [hf, Option.getD_some, Option.isSome_some]
                by_cases hv : old = x.val
                · have hv' := hide (step_known hlt hl.out hall.out hr hk1 hw hf hv)
                  subst hv
                  clear hw hf
                  go_wp2
                  go_roundw
                  case rel => exact ⟨i + 1, by omega, by go_num, hnext.out hv'.out.1, hsame.out hv'.out.2.1 hv'.out.2.2⟩
                  case measure => simp [intOf]; omega
                · have hbad : Hid (lookR l = ⟨[], [], i, 11⟩) := lookR_wrong hlt hall.out (step_other hlt hl.out hall.out hr hk1 hw hf hv) (by decide)
                  clear hw hf
                  go_wp2
                  refine bodyPost_ret (v := .tuple #[.agg #[.slice none 0 0, .slice none 0 0], .int .i64 i, .int .i64 11]) (by simp [results, Tryz.results35, go_sem, r0, r1]) rfl ?_
                  exact LookPost_bad hbad.out ((hbw6.setCell (by simp) _).setCell (by simp) _)
              · simp only [hf, Option.getD_none, Option.isSome_none]
                have hi1 : (i : Int) + 1 ≤ (l.length : Int) := by omega
                have hwL : EvS w6 (fun b => b < w6.heap.size ∧ b ≠ w5.heap.size) (.slice (some ⟨b, off, none⟩) l.length c) l :=
                  EvS.keep h (Agree.below hbw6 fun _ hh => hh) fun b hh => by
                    have h1 : b < w.heap.size := hh
                    have h2 := hbw6.size
                    have h3 := hb.size
                    exact ⟨by omega, by omega⟩
                have hd := SlR.drop hwL (k := i + 1) (by omega)
                have hdl : l.length - (i + 1) = (l.drop (i + 1)).length := by rw [List.length_drop]
                have hd' : ∃ A', (if c = i + 1 then (some ⟨b, off, none⟩ : Option Addr) else some ⟨b, off + (i + 1) * 4, none⟩) = A' ∧ EvS w6 (fun b => b < w6.heap.size ∧ b ≠ w5.heap.size) (.slice A' (l.drop (i + 1)).length (c - (i + 1))) (l.drop (i + 1)) := by
                  refine ⟨_, rfl, ?_⟩
                  rw [hdl] at hd
                  have e : ((some ⟨b, off, none⟩ : Option Addr).map (·.add ((i + 1) * 4))) = some ⟨b, off + (i + 1) * 4, none⟩ := by
                    simp only [Option.map_some, Addr.add_lit]
                  rw [e] at hd
                  exact hd
                obtain ⟨A', hA', hd'⟩ := hd'
                have hdl' := hide hdl
                clear hd hwL hdl
                go_wp2_with fail
                all_goals
                  rw [hdl'.out]
                  refine (contains_any w5.heap.size x.sess x.key x.val A' (c - (i + 1)) (l.drop (i + 1)) w6 bL hd' (by rw [← hdl'.out]; omega)).mono ?_
                  rintro e w7 ⟨rfl, hg⟩
                  have hfu : Hid (((l.drop (i + 1)).any fun e => e.kind == 2 && e.key == x.key && e.val == x.val) = future l i x.key x.val) := rfl
                  rw [hfu.out]
                  have B7 : Below wr.heap.size wr w7 := B6.grown hg (by omega) (fun g hg => by injection hg with hg; omega)
                  have hb37 : Below w3.heap.size w3 w7 := hb36.grown hg hb36.size (fun g hg => by injection hg with hg; have := hb35.size; omega)
                  have hbw7 := hb.trans (B7.mono hb.size)
                  have bE7 : Blk w7 wr.heap.size 56 _ := bE6.grown hg (fun e => by injection e with e; omega)
                  clear hfu hsame e0 e3 r0 r1 z0 z1 t3
                  have r0 := (bR.below B7 bR.lt).cell 0
                  have r1 := (bR.below B7 bR.lt).cell 1
                  have z0 := (bR.below B7 bR.lt).frozen 0
                  have z1 := (bR.below B7 bR.lt).frozen 1
                  have e3 := bE7.cell 3
                  simp at r0 r1 e3
                  cases hu : future l i x.key x.val with
                  | true =>
                    have hbad : Hid (lookR l = ⟨[], [], i, 9⟩) := lookR_wrong hlt hall.out (step_future hlt hl.out hall.out hr hk1 hw hf hu) (by decide)
                    go_wp2
                    refine bodyPost_ret (v := .tuple #[.agg #[.slice none 0 0, .slice none 0 0], .int .i64 i, .int .i64 9]) (by simp [results, Tryz.results35, go_sem, r0, r1]) rfl ?_
                    exact LookPost_bad hbad.out ((hbw7.setCell (by simp) _).setCell (by simp) _)
                  | false =>
                    have sw := step_read hlt hl.out hall.out hr hk1 hw hf hu
                    have hall2 := hide (hnext.out sw.1)
                    obtain ⟨b1, b2, b3, b4, rfl, hcall⟩ := put_any (w.heap.size + 2) 0 (w.heap.size + 3) (.slice Ar (rng (fR l i)).length cr) (.slice Aw (rng (fW l i)).length cw) (.slice Ar (rng (fR l i)).length cr) (rng (fR l i)) x.key x.val w7 hc3 hb37 rfl (bF.below B7 bF.lt) (own_below oR B7 (Nat.le_refl _)) (by omega) lenR (by have := hbw7.size; have := B7.size; omega) (fun g hg => by have := (oR.lt g hg).2; have := s12; omega) (by have := s12; omega)
                    have bT7 := bT.below B7 bT.lt
                    have bR7 := bR.below B7 bR.lt
                    have oR7 := own_below oR B7 (Nat.le_refl _)
                    have oW7 := own_below oW B7 (Nat.le_refl _)
                    have hfin : ∀ w8, PutOut (w.heap.size + 2) 0 (w.heap.size + 3) (.slice Ar (rng (fR l i)).length cr) (.slice Aw (rng (fW l i)).length cw) (.slice Ar (rng (fR l i)).length cr) (putI (rng (fR l i)) x.key x.val) w7 w8 → LS #[.int .i64 s, .bool d, .int .i64 f, .slice (some ⟨b, off, none⟩) l.length c] w w8 (fR l (i + 1)) (fW l (i + 1)) := fun w8 hP => by
                      rw [hput] at hP
                      rw [sw.2.1, sw.2.2]
                      exact LS_read bT7 bR7 oR7 oW7 hdis hbw7 hP
                    have hfin := hide hfin
                    clear bT7 bR7 oR7 oW7 sw hput bT bR bF oW oR hdis hR2 hall hw hf hu
                    go_wp2_with fail
                    refine hcall.mono ?_
                    rintro e w8 ⟨rfl, hP⟩
                    go_wp2
                    go_roundw
                    case rel => exact ⟨i + 1, by omega, by go_num, hall2, hfin.out w8 hP⟩
                    case measure => simp [intOf]; omega
          · go_wp2_with fail
            refine (cell_any (w.heap.size + 2) 1 Aw cw (rng (fW l i)) x.key w1 q1 iW (rng_rising _) lenW).mono ?_
            rintro e w2 ⟨gv, pv, rfl, hc2, hb2⟩
            have e2' := (hb2.cell (p := ⟨wr.heap.size, 2, none⟩) s1).trans e2
            have q0' := (hb2.cell (p := ⟨w.heap.size + 2, 0, none⟩) (by simp; omega)).trans q0
            go_wp2_with fail
            refine (cell_any (w.heap.size + 2) 0 Ar cr (rng (fR l i)) x.key w2 q0' (ItS.below iR hb2) (rng_rising _) lenR).mono ?_
            rintro e w3 ⟨gv', pv', rfl, hc3, hb3⟩
            have hb13 := hb2.trans (hb3.mono hb2.size)
            clear e2' q0'
            obtain ⟨a1, a2, a3, rfl, hget1⟩ := get_of (w.heap.size + 2) 1 Aw cw (rng (fW l i)) x.key w3 hc2 hb3 ((hb13.cell (p := ⟨w.heap.size + 2, 1, none⟩) (by simp; omega)).trans q1) (ItS.below iW hb13) lenW
            rw [g1, g2] at hget1
            go_wp2_with fail
            refine hget1.mono ?_
            rintro e w4 ⟨rfl, hb4⟩
            clear hget1
            have hb14 := hb13.trans (hb4.mono hb13.size)
            obtain ⟨a4, a5, a6, rfl, hget2⟩ := get_of (w.heap.size + 2) 0 Ar cr (rng (fR l i)) x.key w4 hc3 hb4 ((hb14.cell (p := ⟨w.heap.size + 2, 0, none⟩) (by simp; omega)).trans q0) (ItS.below iR hb14) lenR
            rw [g3, g4] at hget2
            go_wp2_with fail
            refine hget2.mono ?_
            rintro e w5 ⟨rfl, hb5⟩
            clear hget2
            have hb15 := hb14.trans (hb5.mono hb14.size)
            have s12 : wr.heap.size < w2.heap.size := Nat.lt_of_lt_of_le s1 hb2.size
            have hb25 : Below w2.heap.size w2 w5 := (hb3.trans (hb4.mono hb3.size)).trans (hb5.mono (Nat.le_trans hb3.size hb4.size))
            have hb35 : Below w3.heap.size w3 w5 := hb4.trans (hb5.mono hb4.size)
            have B5 : Below wr.heap.size wr w5 := B1.trans (hb15.mono B1.size)
            have bE5 := bE.below hb15 s1
            have s5 : w1.heap.size ≤ w5.heap.size := hb15.size
            have s6 : wr.heap.size < w5.heap.size := by omega
            clear e0 e1 e2 e3 q0 q1 r0 r1 z0 z1 iW iR oW1 oR1 hb2 hb3 hb4 hb5 hb13 hb14 g1 g2 g3 g4
            have e0 := bE5.cell 0
            have e1 := bE5.cell 1
            have e2 := bE5.cell 2
            have e3 := bE5.cell 3
            simp at e0 e1 e2 e3
            have sw := step_write hl.out hr hk2
            have hall2 : Hid (∀ j, j < i + 1 → wrongAt l j = 0) := fun j hj => by
              by_cases hje : j = i
              · subst hje; exact sw.1
              · exact hall.out j (by omega)
            have B6 : Below wr.heap.size wr (w5.alloc (.cells #[.int .i64 2, .int .i64 x.sess, .int .i64 x.key, .int .i64 x.val] 56)) := B5.alloc (by omega) _
            obtain ⟨b1, b2, b3, b4, rfl, hcall⟩ := put_any (w.heap.size + 2) 1 (w.heap.size + 3) (.slice Ar (rng (fR l i)).length cr) (.slice Aw (rng (fW l i)).length cw) (.slice Aw (rng (fW l i)).length cw) (rng (fW l i)) x.key x.val (w5.alloc (.cells #[.int .i64 2, .int .i64 x.sess, .int .i64 x.key, .int .i64 x.val] 56)) hc2 (hb25.alloc hb25.size _) rfl (bF.below B6 bF.lt) (own_below oW B6 (Nat.le_refl _)) (by omega) lenW (by simp; omega) (fun g hg => by have := (oW.lt g hg).2; omega) (by omega)
            have bT6 := bT.below B6 bT.lt
            have bR6 := bR.below B6 bR.lt
            have oR6 := own_below oR B6 (Nat.le_refl _)
            have oW6 := own_below oW B6 (Nat.le_refl _)
            have B6w := hb.trans (B6.mono hb.size)
            have hfin : ∀ w7, PutOut (w.heap.size + 2) 1 (w.heap.size + 3) (.slice Ar (rng (fR l i)).length cr) (.slice Aw (rng (fW l i)).length cw) (.slice Aw (rng (fW l i)).length cw) (putI (rng (fW l i)) x.key x.val) (w5.alloc (.cells #[.int .i64 2, .int .i64 x.sess, .int .i64 x.key, .int .i64 x.val] 56)) w7 → LS #[.int .i64 s, .bool d, .int .i64 f, .slice (some ⟨b, off, none⟩) l.length c] w w7 (fR l (i + 1)) (fW l (i + 1)) := fun w7 hP => by
              rw [hput] at hP
              rw [sw.2.1, sw.2.2]
              exact LS_write bT6 bR6 oR6 oW6 hdis B6w hP
            have hfin := hide hfin
            clear bT6 bR6 oR6 oW6 B6w B6 sw hput bT bR bF oW oR hdis hR2 hall
            go_wp2_with fail
            refine hcall.mono ?_
            rintro e w7 ⟨rfl, hP⟩
            go_wp2
            go_roundw
            case rel => exact ⟨i + 1, by omega, by go_num, hall2, hfin.out w7 hP⟩
            case measure => simp [intOf]; omega
        · have hbad : Hid (lookR l = ⟨[], [], i, 1⟩) := lookR_wrong hlt hall.out (step_bad hl.out (.inr (by omega))) (by decide)
          have k1 : ¬ x.kind = 1 := by omega
          have k2 : ¬ x.kind = 2 := by omega
          rw [hr]
          go_wp2
          refine bodyPost_ret (v := .tuple #[.agg #[.slice none 0 0, .slice none 0 0], .int .i64 i, .int .i64 1]) (by simp [results, Tryz.results35, go_sem, r0, r1]) rfl ?_
          exact LookPost_bad hbad.out ((hbw.setCell (by simp) _).setCell (by simp) _)
      · have hr' : x.right = false := by simpa using hr
        have hbad : Hid (lookR l = ⟨[], [], i, 1⟩) := lookR_wrong hlt hall.out (step_bad hl.out (.inl hr')) (by decide)
        rw [hr']
        go_wp2
        refine bodyPost_ret (v := .tuple #[.agg #[.slice none 0 0, .slice none 0 0], .int .i64 i, .int .i64 1]) (by simp [results, Tryz.results35, go_sem, r0, r1]) rfl ?_
        exact LookPost_bad hbad.out ((hbw.setCell (by simp) _).setCell (by simp) _)
    · have : i = l.length := by omega
      subst this
      have hgood : Hid (lookR l = ⟨rng (fR l l.length), rng (fW l l.length), 0, 0⟩) := lookR_right hall.out
      obtain ⟨Aw, cw, rfl⟩ := own_slice oW
      obtain ⟨Ar, cr, rfl⟩ := own_slice oR
      have d0 := bF.cell 0
      have d1 := bF.cell 1
      have r0 := bR.cell 0
      have r1 := bR.cell 1
      have z0 := bR.frozen 0
      have z1 := bR.frozen 1
      simp at d0 d1 r0 r1
      go_wp2
      refine bodyPost_ret (v := .tuple #[.agg #[.slice Ar (rng (fR l l.length)).length cr, .slice Aw (rng (fW l l.length)).length cw], .int .i64 0, .int .i64 0]) (by simp [results, Tryz.results35, go_sem, r0, r1]) rfl ?_
      have ne : ∀ v : Value, (∀ g, v.ownBlock = some g → w.heap.size + 3 ≤ g) → v.ownBlock ≠ some (w.heap.size + 1) := fun v hv e => by have := hv _ e; omega
      have o1 := own_setCell (p := ⟨w.heap.size + 1, 1, none⟩) (own_setCell (p := ⟨w.heap.size + 1, 0, none⟩) oR (ne _ fun g hg => (oR.lt g hg).1) (.slice Ar (rng (fR l l.length)).length cr)) (ne _ fun g hg => (oR.lt g hg).1) (.slice Aw (rng (fW l l.length)).length cw)
      have o2 := own_setCell (p := ⟨w.heap.size + 1, 1, none⟩) (own_setCell (p := ⟨w.heap.size + 1, 0, none⟩) oW (ne _ fun g hg => (oW.lt g hg).1) (.slice Ar (rng (fR l l.length)).length cr)) (ne _ fun g hg => (oW.lt g hg).1) (.slice Aw (rng (fW l l.length)).length cw)
      unfold LookPost
      rw [hgood.out]
      exact ⟨_, _, rfl, its_of_own o1 (fun g h1 h2 => ⟨by omega, h2⟩), its_of_own o2 (fun g h1 h2 => ⟨by omega, h2⟩), (hb.setCell (by simp) _).setCell (by simp) _⟩
end Go.Proofs.YtphcebgpllecjaaGreatDoor
