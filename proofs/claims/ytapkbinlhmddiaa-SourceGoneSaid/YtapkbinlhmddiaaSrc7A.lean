/-
  Walks: inquestlaw07.awake: the document's examples; and what all laws of layer 7 share.
-/
import Derived.Test.YtapkbinlhmddiaaSrc7H
import Derived.Test.YtapkbinlhmddiaaLaw7
import Derived.Test.YtapkbinlhmddiaaSrc07
set_option linter.unusedVariables false
set_option linter.unusedSimpArgs false
namespace Go.Proofs.Ytapkbinlhmddiaa
open Go.RowKit Go.Inq
set_option maxHeartbeats 4000000
attribute [local go_sem ↓] Go.wp_at_zero Go.wp_at_succ

/-- A block that was written out reads as a list. -/
theorem SlR.of_blk {α : Type} {size : Nat} {R : World → (Nat → Prop) → List Value → α → Prop} {w : World} {K : Nat → Prop} {g : Nat} {t : TypeId} {l : List α} (ys : List (List Value)) (h : Blk w g t ys.flatten.toArray) (hl : ys.length = l.length)
    (hR : ∀ (i : Nat) cs x, ys[i]? = some cs → l[i]? = some x → cs.length = size ∧ R w K cs x) (hK : K g) (hn : l.length ≤ 1000000) : SlR size R w K (.slice (some ⟨g, 0, none⟩) l.length l.length) l := by
  have hlen : ∀ (ys : List (List Value)), (∀ cs ∈ ys, cs.length = size) → ys.flatten.length = ys.length * size := by
    intro ys
    induction ys with
    | nil => intro _; simp
    | cons y r ih =>
      intro hs
      rw [List.flatten_cons, List.length_append, ih fun cs hc => hs cs (List.mem_cons_of_mem _ hc), hs y (by simp), List.length_cons, Nat.add_mul]
      omega
  have h1 := hlen ys fun cs hc => by
    obtain ⟨i, hi⟩ := List.getElem?_of_mem hc
    have hil : i < l.length := by
      rcases Nat.lt_or_ge i ys.length with h | h
      · omega
      · rw [List.getElem?_eq_none h] at hi; cases hi
    exact (hR i cs l[i] hi (List.getElem?_eq_getElem hil)).1
  refine SlR.of_own (base := g) (e := t) (n := l.length) (xs := ys.flatten) (ys := ys) ⟨by rw [h1, hl], .inr ⟨g, l.length, _, rfl, Nat.le_refl _, h, Nat.le_refl _, by unfold maxLen; omega, by simp [h1, hl], List.take_of_length_le (by simp [h1, hl])⟩⟩ rfl rfl hl hR (fun g' hg => ?_)
  have : g = g' := by simpa [Value.ownBlock] using hg
  exact this ▸ hK

theorem op7_any (k v : Int) (w : World) : Calls Try.prog 13 #[.int .i64 k, .int .i64 v] w fun e w' => e = .returned (.slice (some ⟨w.heap.size, 0, none⟩) 1 1) ∧ w.alloc (.cells #[.int .i64 k, .int .i64 0, .int .i64 1, .int .i64 v] 45) = w' := by
  go_enter Try.func13, Try.ntmps13
  go_wp2
  go_ret
  exact ⟨rfl, rfl⟩

def wk7 (v : Int) : List Tx := [⟨0, true, 0, [⟨2, 0, 1, 5⟩]⟩, ⟨1, true, 0, [⟨1, 0, 1, v⟩]⟩]
def wk7T : List Txn := [⟨0, [1], []⟩, ⟨1, [], [⟨1, 0⟩]⟩]
theorem wk7_five : histR (wk7 5) = (wk7T, 0, 0) := by rfl
theorem wk7_six : histR (wk7 6) = ([], 1, 12) := by rfl
theorem wk7_small (v : Int) : SmallT (wk7 v) := ⟨by simp [wk7], fun t ht => by simp [wk7] at ht; rcases ht with rfl | rfl <;> simp⟩

theorem wk7_tx (w : World) (n : Nat) (hn : w.heap.size = n) (v : Int) :
    TxS (((w.alloc (.cells #[.int .i64 2, .int .i64 0, .int .i64 1, .int .i64 5] 45)).alloc (.cells #[.int .i64 1, .int .i64 0, .int .i64 1, .int .i64 v] 45)).alloc
      (.cells #[.int .i64 0, .bool true, .int .i64 0, .slice (some ⟨n, 0, none⟩) 1 1, .int .i64 1, .bool true, .int .i64 0, .slice (some ⟨n + 1, 0, none⟩) 1 1] 37))
      (Old (((w.alloc (.cells #[.int .i64 2, .int .i64 0, .int .i64 1, .int .i64 5] 45)).alloc (.cells #[.int .i64 1, .int .i64 0, .int .i64 1, .int .i64 v] 45)).alloc
      (.cells #[.int .i64 0, .bool true, .int .i64 0, .slice (some ⟨n, 0, none⟩) 1 1, .int .i64 1, .bool true, .int .i64 0, .slice (some ⟨n + 1, 0, none⟩) 1 1] 37)))
      (.slice (some ⟨n + 2, 0, none⟩) (wk7 v).length 2) (wk7 v) := by
  subst hn
  have b0 := ((Blk.new w 45 #[.int .i64 2, .int .i64 0, .int .i64 1, .int .i64 5]).alloc (.cells #[.int .i64 1, .int .i64 0, .int .i64 1, .int .i64 v] 45)).alloc (.cells #[.int .i64 0, .bool true, .int .i64 0, .slice (some ⟨w.heap.size, 0, none⟩) 1 1, .int .i64 1, .bool true, .int .i64 0, .slice (some ⟨w.heap.size + 1, 0, none⟩) 1 1] 37)
  have b1 := (Blk.new (w.alloc (.cells #[.int .i64 2, .int .i64 0, .int .i64 1, .int .i64 5] 45)) 45 #[.int .i64 1, .int .i64 0, .int .i64 1, .int .i64 v]).alloc (.cells #[.int .i64 0, .bool true, .int .i64 0, .slice (some ⟨w.heap.size, 0, none⟩) 1 1, .int .i64 1, .bool true, .int .i64 0, .slice (some ⟨w.heap.size + 1, 0, none⟩) 1 1] 37)
  have b2 := Blk.new ((w.alloc (.cells #[.int .i64 2, .int .i64 0, .int .i64 1, .int .i64 5] 45)).alloc (.cells #[.int .i64 1, .int .i64 0, .int .i64 1, .int .i64 v] 45)) 37 #[.int .i64 0, .bool true, .int .i64 0, .slice (some ⟨w.heap.size, 0, none⟩) 1 1, .int .i64 1, .bool true, .int .i64 0, .slice (some ⟨w.heap.size + 1, 0, none⟩) 1 1]
  simp only [World.size_alloc] at b1 b2
  generalize hW : ((w.alloc (.cells #[.int .i64 2, .int .i64 0, .int .i64 1, .int .i64 5] 45)).alloc (.cells #[.int .i64 1, .int .i64 0, .int .i64 1, .int .i64 v] 45)).alloc
      (.cells #[.int .i64 0, .bool true, .int .i64 0, .slice (some ⟨w.heap.size, 0, none⟩) 1 1, .int .i64 1, .bool true, .int .i64 0, .slice (some ⟨w.heap.size + 1, 0, none⟩) 1 1] 37) = W at *
  refine SlR.of_blk (l := wk7 v) [[.int .i64 0, .bool true, .int .i64 0, .slice (some ⟨w.heap.size, 0, none⟩) 1 1], [.int .i64 1, .bool true, .int .i64 0, .slice (some ⟨w.heap.size + 1, 0, none⟩) 1 1]] b2 rfl (fun i cs x h1 h2 => ?_) b2.lt (by simp [wk7])
  match i with
  | 0 =>
    simp [wk7] at h1 h2
    subst h1 h2
    exact ⟨rfl, _, rfl, SlR.one b0 rfl rfl b0.lt⟩
  | 1 =>
    simp [wk7] at h1 h2
    subst h1 h2
    exact ⟨rfl, _, rfl, SlR.one b1 rfl rfl b1.lt⟩
  | i + 2 => simp at h1
theorem wk7_below (w : World) (o o2 o3 : Obj) : Below w.heap.size w (((w.alloc o).alloc o2).alloc o3) := (((Below.refl _ _).alloc (Nat.le_refl _) _).alloc (by simp) _).alloc (by simp; omega) _

theorem wk7_txn (w : World) (n : Nat) (hn : w.heap.size = n) :
    TxnS (((w.alloc (.cells #[.int .i64 1] 3)).alloc (.cells #[.int .i64 1, .int .i64 0] 43)).alloc
      (.cells #[.int .i64 0, .slice (some ⟨n, 0, none⟩) 1 1, .slice none 0 0, .int .i64 1, .slice none 0 0, .slice (some ⟨n + 1, 0, none⟩) 1 1] 41))
      (Old (((w.alloc (.cells #[.int .i64 1] 3)).alloc (.cells #[.int .i64 1, .int .i64 0] 43)).alloc
      (.cells #[.int .i64 0, .slice (some ⟨n, 0, none⟩) 1 1, .slice none 0 0, .int .i64 1, .slice none 0 0, .slice (some ⟨n + 1, 0, none⟩) 1 1] 41)))
      (.slice (some ⟨n + 2, 0, none⟩) wk7T.length 2) wk7T := by
  subst hn
  have b0 := ((Blk.new w 3 #[.int .i64 1]).alloc (.cells #[.int .i64 1, .int .i64 0] 43)).alloc (.cells #[.int .i64 0, .slice (some ⟨w.heap.size, 0, none⟩) 1 1, .slice none 0 0, .int .i64 1, .slice none 0 0, .slice (some ⟨w.heap.size + 1, 0, none⟩) 1 1] 41)
  have b1 := (Blk.new (w.alloc (.cells #[.int .i64 1] 3)) 43 #[.int .i64 1, .int .i64 0]).alloc (.cells #[.int .i64 0, .slice (some ⟨w.heap.size, 0, none⟩) 1 1, .slice none 0 0, .int .i64 1, .slice none 0 0, .slice (some ⟨w.heap.size + 1, 0, none⟩) 1 1] 41)
  have b2 := Blk.new ((w.alloc (.cells #[.int .i64 1] 3)).alloc (.cells #[.int .i64 1, .int .i64 0] 43)) 41 #[.int .i64 0, .slice (some ⟨w.heap.size, 0, none⟩) 1 1, .slice none 0 0, .int .i64 1, .slice none 0 0, .slice (some ⟨w.heap.size + 1, 0, none⟩) 1 1]
  simp only [World.size_alloc] at b1 b2
  generalize hW : ((w.alloc (.cells #[.int .i64 1] 3)).alloc (.cells #[.int .i64 1, .int .i64 0] 43)).alloc
      (.cells #[.int .i64 0, .slice (some ⟨w.heap.size, 0, none⟩) 1 1, .slice none 0 0, .int .i64 1, .slice none 0 0, .slice (some ⟨w.heap.size + 1, 0, none⟩) 1 1] 41) = W at *
  refine SlR.of_blk (l := wk7T) [[.int .i64 0, .slice (some ⟨w.heap.size, 0, none⟩) 1 1, .slice none 0 0], [.int .i64 1, .slice none 0 0, .slice (some ⟨w.heap.size + 1, 0, none⟩) 1 1]] b2 rfl (fun i cs x h1 h2 => ?_) b2.lt (by simp [wk7T])
  match i with
  | 0 =>
    simp [wk7T] at h1 h2
    subst h1 h2
    exact ⟨rfl, _, _, rfl, SlR.one b0 rfl rfl b0.lt, SlR.nil _ _ _ _ _ _⟩
  | 1 =>
    simp [wk7T] at h1 h2
    subst h1 h2
    exact ⟨rfl, _, _, rfl, SlR.nil _ _ _ _ _ _, SlR.one b1 rfl rfl b1.lt⟩
  | i + 2 => simp at h1

theorem look_small (ops : List Ev) : (lookR ops).reads.length ≤ 16 ∧ (lookR ops).writes.length ≤ 16 := look_len ops
theorem one_small (l : List Tx) (t : Tx) : (oneR l t).1.writes.length ≤ 16 ∧ (oneR l t).1.reads.length ≤ 16 := by
  have := look_len t.ops
  unfold oneR
  dsimp only
  cases firstN (lookR t.ops).reads.length (readE l (lookR t.ops).reads) with
  | some i => exact ⟨by simp, by simp⟩
  | none => simp; omega
theorem histR_ways (l : List Tx) : ((histR l).1 = [] ∧ ∃ i : Nat, (histR l).2.1 = (i : Int) ∧ (i = 0 ∨ i < l.length) ∧ (histR l).2.2 ≠ 0) ∨
    (histR l = (txnsTo l l.length, 0, 0) ∧ l.length ≤ 32 ∧ (∀ j, j < l.length → mayAt l j = 0) ∧ (∀ j, j < l.length → unlikeR l j = 0) ∧ (∀ j, j < l.length → lookAt l j = 0) ∧ (∀ j, j < l.length → oneAt l j = 0)) := by
  by_cases h : 32 < l.length
  · rw [histR_many h]; exact .inl ⟨rfl, 0, rfl, .inl rfl, by decide⟩
  · rcases firstN_ways l.length (mayAt l) with ⟨k, hk, hj, hb, _⟩ | ⟨h1, _⟩
    · rw [histR_may h hk hj hb]; exact .inl ⟨rfl, k, rfl, .inr hk, hb⟩
    · rcases firstN_ways l.length (unlikeR l) with ⟨k, hk, hj, hb, _⟩ | ⟨h2, _⟩
      · rw [histR_unlike h h1 hk hj hb]; exact .inl ⟨rfl, k, rfl, .inr hk, hb⟩
      · rcases firstN_ways l.length (lookAt l) with ⟨k, hk, hj, hb, _⟩ | ⟨h3, _⟩
        · rw [histR_look h h1 h2 hk hj hb]; exact .inl ⟨rfl, k, rfl, .inr hk, hb⟩
        · rcases firstN_ways l.length (oneAt l) with ⟨k, hk, hj, hb, _⟩ | ⟨h4, _⟩
          · rw [histR_one h h1 h2 h3 hk hj hb]; exact .inl ⟨rfl, k, rfl, .inr hk, hb⟩
          · exact .inr ⟨histR_good h h1 h2 h3 h4, by omega, h1, h2, h3, h4⟩
theorem histR_smallH (l : List Tx) : SmallH (histR l).1 := by
  rcases histR_ways l with ⟨h, _⟩ | ⟨h, hn, _⟩
  · rw [h]; exact ⟨by simp, by simp⟩
  · rw [h]
    refine ⟨?_, fun t ht => ?_⟩
    · show (txnsTo l l.length).length ≤ _
      unfold txnsTo
      rw [List.length_map]
      exact Nat.le_trans (List.length_filter_le _ _) (by rw [List.length_take]; omega)
    · have ht : t ∈ txnsTo l l.length := ht
      unfold txnsTo at ht
      obtain ⟨u, _, rfl⟩ := List.mem_map.1 ht
      have := one_small l u
      omega

set_option maxRecDepth 100000 in
theorem awake7_any (w : World) : Calls Try.prog 7 #[] w fun e w' => e = .returned (.bool true) ∧ Below w.heap.size w w' := by
  have hT1 := wk7_tx w w.heap.size rfl 5
  have hB1 := wk7_below w (.cells #[.int .i64 2, .int .i64 0, .int .i64 1, .int .i64 5] 45) (.cells #[.int .i64 1, .int .i64 0, .int .i64 1, .int .i64 5] 45)
      (.cells #[.int .i64 0, .bool true, .int .i64 0, .slice (some ⟨w.heap.size, 0, none⟩) 1 1, .int .i64 1, .bool true, .int .i64 0, .slice (some ⟨w.heap.size + 1, 0, none⟩) 1 1] 37)
  go_enter Try.func7, Try.ntmps7
  go_wp2_with (go_at_call 13; refine (op7_any _ _ _).mono ?_; rintro e w' ⟨rfl, rfl⟩; dsimp only)
  refine (hist7_any (wk7 5) (some ⟨w.heap.size + 2, 0, none⟩) 2 _ hT1 (wk7_small 5)).mono ?_
  rintro e w1 ⟨v1, rfl, hS1, hb1⟩
  rw [wk7_five] at hS1
  rw [wk7_five]
  obtain ⟨A1, c1, rfl⟩ := SlR.form hS1
  have hb := hB1.trans (hb1.mono hB1.size)
  have hsz1 : w.heap.size + 3 ≤ w1.heap.size := by have := hb1.size; simpa using this
  clear hT1 hB1 hb1
  dsimp only at hS1 ⊢
  have hlw : wk7T.length = 2 := rfl
  have hl6 : (wk7 6).length = 2 := rfl
  rw [hlw] at hS1 ⊢
  have hT2 := wk7_tx (w1.alloc (.cells #[.slice A1 2 c1] 27)) (w1.heap.size + 1) (by simp) 6
  rw [hl6] at hT2
  clear hlw hl6
  go_wp2_with (go_at_call 13; refine (op7_any _ _ _).mono ?_; rintro e w' ⟨rfl, rfl⟩; dsimp only)
  refine (hist7_any (wk7 6) (some ⟨w1.heap.size + 3, 0, none⟩) 2 _ hT2 (wk7_small 6)).mono ?_
  rintro e w2 ⟨v2, rfl, hS2, hb2⟩
  rw [wk7_six] at hS2
  rw [wk7_six]
  obtain ⟨A2, c2, rfl⟩ := SlR.form hS2
  clear hT2 hS2
  dsimp only
  simp only [List.length_nil]
  have hbV : Below w1.heap.size w1 ((((w1.alloc (.cells #[.slice A1 2 c1] 27)).alloc (.cells #[.int .i64 2, .int .i64 0, .int .i64 1, .int .i64 5] 45)).alloc (.cells #[.int .i64 1, .int .i64 0, .int .i64 1, .int .i64 6] 45)).alloc (.cells #[.int .i64 0, .bool true, .int .i64 0, .slice (some ⟨w1.heap.size + 1, 0, none⟩) 1 1, .int .i64 1, .bool true, .int .i64 0, .slice (some ⟨w1.heap.size + 1 + 1, 0, none⟩) 1 1] 37)) := ((((Below.refl _ _).alloc (Nat.le_refl _) _).alloc (by simp) _).alloc (by simp; omega) _).alloc (by simp; omega) _
  have hbw := hbV.trans (hb2.mono hbV.size)
  have kh : Blk w2 w1.heap.size 27 #[.slice A1 2 c1] := ((((Blk.new w1 27 #[.slice A1 2 c1]).alloc (.cells #[.int .i64 2, .int .i64 0, .int .i64 1, .int .i64 5] 45)).alloc (.cells #[.int .i64 1, .int .i64 0, .int .i64 1, .int .i64 6] 45)).alloc (.cells #[.int .i64 0, .bool true, .int .i64 0, .slice (some ⟨w1.heap.size + 1, 0, none⟩) 1 1, .int .i64 1, .bool true, .int .i64 0, .slice (some ⟨w1.heap.size + 1 + 1, 0, none⟩) 1 1] 37)).below hb2 (by simp; omega)
  have hS3 : TxnS w2 (Old w2) (.slice A1 2 c1) wk7T := TxnS.keep hS1 (Agree.below hbw fun b h => h.2) (fun b h => Nat.lt_of_lt_of_le h.2 hbw.size)
  have hb3 := hb.trans (hbw.mono hb.size)
  have hs12 : w1.heap.size < w2.heap.size := kh.lt
  clear hbV hbw hb2 hb hS1
  have hbX : Below w2.heap.size w2 (((((w2.alloc (.cells #[.slice A2 0 c2] 27)).alloc (.cells #[.int .i64 1] 3)).alloc (.cells #[.int .i64 1, .int .i64 0] 43)).alloc (.cells #[.int .i64 0, .slice (some ⟨w2.heap.size + 1, 0, none⟩) 1 1, .slice none 0 0, .int .i64 1, .slice none 0 0, .slice (some ⟨w2.heap.size + 1 + 1, 0, none⟩) 1 1] 41)).alloc (.cells #[.slice (some ⟨w2.heap.size + 1 + 2, 0, none⟩) 2 2] 27)) := (((((Below.refl _ _).alloc (Nat.le_refl _) _).alloc (by simp) _).alloc (by simp; omega) _).alloc (by simp; omega) _).alloc (by simp; omega) _
  have kh2 := kh.below hbX kh.lt
  have hS4 := TxnS.below hS3 hbX
  have hS5 := TxnS.below (wk7_txn (w2.alloc (.cells #[.slice A2 0 c2] 27)) (w2.heap.size + 1) (by simp)) ((Below.refl _ _).alloc (Nat.le_refl _) (.cells #[.slice (some ⟨w2.heap.size + 1 + 2, 0, none⟩) 2 2] 27))
  have hb4 := hb3.trans (hbX.mono hb3.size)
  have x1 := kh2.cell 0
  simp only [List.getElem?_toArray, List.getElem?_cons_zero] at x1
  have hlw : wk7T.length = 2 := rfl
  rw [hlw] at hS5
  clear hlw hbX kh hS3 hb3
  go_wp2_with fail
  refine (same07_any A1 (some ⟨w2.heap.size + 1 + 2, 0, none⟩) c1 2 wk7T wk7T _ hS4 hS5 ⟨by decide, by decide⟩ ⟨by decide, by decide⟩).mono ?_
  rintro e w5 ⟨rfl, hb5⟩
  have hb6 := hb4.trans (hb5.mono hb4.size)
  simp only [decide_true]
  go_wp2
  go_ret
  exact ⟨by simp, hb6⟩

set_option maxRecDepth 100000 in
theorem tells7_any (A : Option Addr) (c : Nat) (l : List Tx) (w : World) (h : TxS w (Old w) (.slice A l.length c) l) (hn : l.length ≤ maxLen) :
    Calls Try.prog 3 #[.slice A l.length c] w fun e w' => e = .returned (.bool true) ∧ Below w.heap.size w w' := by
  go_enter Try.func3, Try.ntmps3
  go_wp2_with fail
  refine (awake7_any _).mono ?_
  rintro e w1 ⟨rfl, hb1⟩
  have h1 := TxS.below h hb1
  dsimp only
  go_wp2_with fail
  refine (few7_any l A c w1 h1 hn).mono ?_
  rintro e w2 ⟨rfl, rfl⟩
  cases hf : fewB l with
  | false =>
    go_wp2
    go_ret
    exact ⟨rfl, hb1⟩
  | true =>
    have hsm := few_small hf
    have hn1 : l.length ≤ 1000000 := by have := hsm.1; omega
    clear hf hn h
    go_wp2_with fail
    refine (hist7_any l A c w1 h1 hsm).mono ?_
    rintro e w2 ⟨v, rfl, hS, hb2⟩
    have href := hide (fun (W : World) (A' : Option Addr) (c' : Nat) (hW : TxS W (Old W) (.slice A' l.length c') l) => rhist7_any l A' c' W hW hsm)
    have hsH := hide (histR_smallH l)
    generalize histR l = r at *
    obtain ⟨rt, ra, re⟩ := r
    obtain ⟨Av, cv, rfl⟩ := SlR.form hS
    dsimp only at hS ⊢
    have hT : TxS w2 (Old w2) (.slice A l.length c) l := TxS.below h1 hb2
    have hS1 : TxnS w2 (Old w2) (.slice Av rt.length cv) rt := TxnS.fit hS (fun b h => h.2)
    have hb3 := hb1.trans (hb2.mono hb1.size)
    have hup : Below w2.heap.size w2 (w2.alloc (.cells #[.slice Av rt.length cv] 27)) := (Below.refl _ _).alloc (Nat.le_refl _) _
    have k0 : Blk (w2.alloc (.cells #[.slice Av rt.length cv] 27)) w2.heap.size 27 #[.slice Av rt.length cv] := Blk.new _ _ _
    replace hT := TxS.below hT hup
    replace hS1 := TxnS.below hS1 hup
    replace hb3 := hb3.trans (hup.mono hb3.size)
    clear hS hb2 hup hb1 h1
    go_wp2_with fail
    generalize w2.alloc (.cells #[.slice Av rt.length cv] 27) = V at *
    refine (plain7_any l A c V hT hn1).mono ?_
    rintro e w3 ⟨A3, c3, rfl, hT3, hb4⟩
    have k1 := k0.below hb4 k0.lt
    have hS2 := TxnS.below hS1 hb4
    have hb5 := hb3.trans (hb4.mono hb3.size)
    clear k0 hS1 hb4 hb3 hT
    dsimp only
    go_wp2_with fail
    refine (href.out w3 A3 c3 hT3).mono ?_
    rintro e w4 ⟨v4, rfl, hS4, hb6⟩
    obtain ⟨A4, c4, rfl⟩ := SlR.form hS4
    dsimp only at hS4 ⊢
    have k2 := k1.below hb6 k1.lt
    have hS3 := TxnS.below hS2 hb6
    have hb7 := hb5.trans (hb6.mono hb5.size)
    have hS5 : TxnS w4 (Old w4) (.slice A4 rt.length c4) rt := TxnS.fit hS4 (fun b h => h.2)
    have hup : Below w4.heap.size w4 (w4.alloc (.cells #[.slice A4 rt.length c4] 27)) := (Below.refl _ _).alloc (Nat.le_refl _) _
    have k3 := k2.below hup k2.lt
    replace hS3 := TxnS.below hS3 hup
    replace hS5 := TxnS.below hS5 hup
    have hb8 := hb7.trans (hup.mono hb7.size)
    have x1 := k3.cell 0
    simp only [List.getElem?_toArray, List.getElem?_cons_zero] at x1
    clear k1 k2 hS2 hb6 hb5 hS4 hup hb7 href hT3
    go_wp2_with fail
    refine (same07_any Av A4 cv c4 rt rt _ hS3 hS5 hsH.out hsH.out).mono ?_
    rintro e w5 ⟨rfl, hb9⟩
    have hb10 := hb8.trans (hb9.mono hb8.size)
    simp only [decide_true]
    clear hb9 hb8 hS3 hS5 k3 x1 hsH
    go_wp2
    go_ret
    exact ⟨by simp, hb10⟩
end Go.Proofs.Ytapkbinlhmddiaa
