/-
  Walks: what the laws of layer 7 share: few, plain, op.
-/
import Derived.Test.YtphcebgpllecjaaGreatDoorProg
import Derived.Test.YtphcebgpllecjaaGreatDoorRows
import Derived.Test.YtphcebgpllecjaaGreatDoorCards
import Derived.Test.YtphcebgpllecjaaGreatDoorTie
import Derived.ProofKit
import Derived.OpenShut
import Derived.LaidMore
import Derived.Lay
import Derived.SevenTiedAt
import Derived.Stop.Joined
import Derived.HandedShaped
import Derived.SliceStrings
import Derived.Deep.Slices
import Derived.Below
import Derived.Carry
import Derived.Lib.LaidU8
import Derived.Deep.Fields
import Derived.ChangeSame
import Derived.Lib.SmallJoins
import Derived.Deep.Strs
import Derived.Test.YtphcebgpllecjaaGreatDoorC30
import Derived.Test.YtphcebgpllecjaaGreatDoorC32
import Derived.Test.YtphcebgpllecjaaGreatDoorC11
import Derived.Test.YtphcebgpllecjaaGreatDoorC24
import Derived.Test.YtphcebgpllecjaaGreatDoorC33
import Derived.Test.YtphcebgpllecjaaGreatDoorC25
import Derived.Test.YtphcebgpllecjaaGreatDoorC02
import Derived.Test.YtphcebgpllecjaaGreatDoorC21
import Derived.Test.YtphcebgpllecjaaGreatDoorC22
import Derived.Test.YtphcebgpllecjaaGreatDoorC09
set_option linter.unusedVariables false
set_option linter.unusedSimpArgs false
namespace Go.Proofs.YtphcebgpllecjaaGreatDoor
open Go.RowKit Go.Inq
set_option maxHeartbeats 4000000
attribute [local go_sem ↓] Go.wp_at_zero Go.wp_at_succ

/-- Few, and short. -/
def fewB (l : List Tx) : Bool := decide (l.length ≤ 40) && l.all fun t => decide (t.ops.length ≤ 40)
theorem few_small {l : List Tx} (h : fewB l = true) : SmallT l := by
  unfold fewB at h
  rw [Bool.and_eq_true, List.all_eq_true] at h
  have h1 := of_decide_eq_true h.1
  exact ⟨by omega, fun t ht => by have := of_decide_eq_true (h.2 t ht); omega⟩
theorem few_bad {l : List Tx} {i : Nat} (hi : i < l.length) (h : 40 < l[i].ops.length) : fewB l = false := by
  unfold fewB
  rw [Bool.and_eq_false_iff]
  right
  rw [List.all_eq_false]
  exact ⟨l[i], List.getElem_mem hi, by simp; omega⟩
theorem few_good {l : List Tx} (h : l.length ≤ 40) (hall : ∀ i (hi : i < l.length), l[i].ops.length ≤ 40) : fewB l = true := by
  unfold fewB
  rw [Bool.and_eq_true, List.all_eq_true]
  exact ⟨by simpa using h, fun t ht => by
    obtain ⟨j, hj, rfl⟩ := List.getElem_of_mem ht
    simpa using hall j hj⟩

theorem infoT05 : (Tryz.prog.info? 54).map (fun i => (i.zero, i.size, i.bytes)) = some (some (.agg #[.int .i64 0, .bool false, .int .i64 0, .slice none 0 0]), 4, 48) := by kernel_rfl
end Go.Proofs.YtphcebgpllecjaaGreatDoor

namespace Go.Proofs.YtphcebgpllecjaaGreatDoor
open Go.RowKit Go.Inq
set_option maxHeartbeats 4000000
attribute [local go_sem ↓] Go.wp_at_zero Go.wp_at_succ

/-- A block that was written out reads as a list. -/
theorem SlR.of_blk {α : Type} {size : Nat} {R : World → (Nat → Prop) → List Value → α → Prop} {w : World} {K : Nat → Prop} {g : Nat} {t : TypeId} {l : List α} (ys : List (List Value)) (h : Blk w g t ys.flatten.toArray) (hl : ys.length = l.length)
    (hR : ∀ (i : Nat) cs x, ys[i]? = some cs → l[i]? = some x → cs.length = size ∧ R w K cs x) (hK : K g) (hn : l.length ≤ 1000000) : SlR size R w K (.slice (some ⟨g, 0, none⟩) l.length l.length) l := by
  have hlen : ∀ (ys : List (List Value)), (∀ cs ∈ ys, cs.length = size) → ys.flatten.length = ys.length * size := by
    intro ys
    induction ys with
    | nil => intro _; simp
    | cons y r ih =>
      intro hs
      rw [List.flatten_cons, List.length_append, ih fun cs hc => hs cs (List.mem_cons_of_mem _ hc), hs y (by simp), List.length_cons, Nat.add_mul]
      omega
  have h1 := hlen ys fun cs hc => by
    obtain ⟨i, hi⟩ := List.getElem?_of_mem hc
    have hil : i < l.length := by
      rcases Nat.lt_or_ge i ys.length with h | h
      · omega
      · rw [List.getElem?_eq_none h] at hi; cases hi
    exact (hR i cs l[i] hi (List.getElem?_eq_getElem hil)).1
  refine SlR.of_own (base := g) (e := t) (n := l.length) (xs := ys.flatten) (ys := ys) ⟨by rw [h1, hl], .inr ⟨g, l.length, _, rfl, Nat.le_refl _, h, Nat.le_refl _, by unfold maxLen; omega, by simp [h1, hl], List.take_of_length_le (by simp [h1, hl])⟩⟩ rfl rfl hl hR (fun g' hg => ?_)
  have : g = g' := by simpa [Value.ownBlock] using hg
  exact this ▸ hK

def wk7 (v : Int) : List Tx := [⟨0, true, 0, [⟨2, 0, 1, 5⟩]⟩, ⟨1, true, 0, [⟨1, 0, 1, v⟩]⟩]
def wk7T : List Txn := [⟨0, [1], []⟩, ⟨1, [], [⟨1, 0⟩]⟩]
theorem wk7_five : histR (wk7 5) = (wk7T, 0, 0) := by rfl
theorem wk7_six : histR (wk7 6) = ([], 1, 12) := by rfl
theorem wk7_small (v : Int) : SmallT (wk7 v) := ⟨by simp [wk7], fun t ht => by simp [wk7] at ht; rcases ht with rfl | rfl <;> simp⟩

theorem wk7_tx (w : World) (n : Nat) (hn : w.heap.size = n) (v : Int) :
    TxS (((w.alloc (.cells #[.int .i64 2, .int .i64 0, .int .i64 1, .int .i64 5] 56)).alloc (.cells #[.int .i64 1, .int .i64 0, .int .i64 1, .int .i64 v] 56)).alloc
      (.cells #[.int .i64 0, .bool true, .int .i64 0, .slice (some ⟨n, 0, none⟩) 1 1, .int .i64 1, .bool true, .int .i64 0, .slice (some ⟨n + 1, 0, none⟩) 1 1] 49))
      (Old (((w.alloc (.cells #[.int .i64 2, .int .i64 0, .int .i64 1, .int .i64 5] 56)).alloc (.cells #[.int .i64 1, .int .i64 0, .int .i64 1, .int .i64 v] 56)).alloc
      (.cells #[.int .i64 0, .bool true, .int .i64 0, .slice (some ⟨n, 0, none⟩) 1 1, .int .i64 1, .bool true, .int .i64 0, .slice (some ⟨n + 1, 0, none⟩) 1 1] 49)))
      (.slice (some ⟨n + 2, 0, none⟩) (wk7 v).length 2) (wk7 v) := by
  subst hn
  have b0 := ((Blk.new w 56 #[.int .i64 2, .int .i64 0, .int .i64 1, .int .i64 5]).alloc (.cells #[.int .i64 1, .int .i64 0, .int .i64 1, .int .i64 v] 56)).alloc (.cells #[.int .i64 0, .bool true, .int .i64 0, .slice (some ⟨w.heap.size, 0, none⟩) 1 1, .int .i64 1, .bool true, .int .i64 0, .slice (some ⟨w.heap.size + 1, 0, none⟩) 1 1] 49)
  have b1 := (Blk.new (w.alloc (.cells #[.int .i64 2, .int .i64 0, .int .i64 1, .int .i64 5] 56)) 56 #[.int .i64 1, .int .i64 0, .int .i64 1, .int .i64 v]).alloc (.cells #[.int .i64 0, .bool true, .int .i64 0, .slice (some ⟨w.heap.size, 0, none⟩) 1 1, .int .i64 1, .bool true, .int .i64 0, .slice (some ⟨w.heap.size + 1, 0, none⟩) 1 1] 49)
  have b2 := Blk.new ((w.alloc (.cells #[.int .i64 2, .int .i64 0, .int .i64 1, .int .i64 5] 56)).alloc (.cells #[.int .i64 1, .int .i64 0, .int .i64 1, .int .i64 v] 56)) 49 #[.int .i64 0, .bool true, .int .i64 0, .slice (some ⟨w.heap.size, 0, none⟩) 1 1, .int .i64 1, .bool true, .int .i64 0, .slice (some ⟨w.heap.size + 1, 0, none⟩) 1 1]
  simp only [World.size_alloc] at b1 b2
  generalize hW : ((w.alloc (.cells #[.int .i64 2, .int .i64 0, .int .i64 1, .int .i64 5] 56)).alloc (.cells #[.int .i64 1, .int .i64 0, .int .i64 1, .int .i64 v] 56)).alloc
      (.cells #[.int .i64 0, .bool true, .int .i64 0, .slice (some ⟨w.heap.size, 0, none⟩) 1 1, .int .i64 1, .bool true, .int .i64 0, .slice (some ⟨w.heap.size + 1, 0, none⟩) 1 1] 49) = W at *
  refine SlR.of_blk (l := wk7 v) [[.int .i64 0, .bool true, .int .i64 0, .slice (some ⟨w.heap.size, 0, none⟩) 1 1], [.int .i64 1, .bool true, .int .i64 0, .slice (some ⟨w.heap.size + 1, 0, none⟩) 1 1]] b2 rfl (fun i cs x h1 h2 => ?_) b2.lt (by simp [wk7])
  match i with
  | 0 =>
    simp [wk7] at h1 h2
    subst h1 h2
    exact ⟨rfl, _, rfl, SlR.one b0 rfl rfl b0.lt⟩
  | 1 =>
    simp [wk7] at h1 h2
    subst h1 h2
    exact ⟨rfl, _, rfl, SlR.one b1 rfl rfl b1.lt⟩
  | i + 2 => simp at h1
theorem wk7_below (w : World) (o o2 o3 : Obj) : Below w.heap.size w (((w.alloc o).alloc o2).alloc o3) := (((Below.refl _ _).alloc (Nat.le_refl _) _).alloc (by simp) _).alloc (by simp; omega) _

theorem wk7_txn (w : World) (n : Nat) (hn : w.heap.size = n) :
    TxnS (((w.alloc (.cells #[.int .i64 1] 3)).alloc (.cells #[.int .i64 1, .int .i64 0] 40)).alloc
      (.cells #[.int .i64 0, .slice (some ⟨n, 0, none⟩) 1 1, .slice none 0 0, .int .i64 1, .slice none 0 0, .slice (some ⟨n + 1, 0, none⟩) 1 1] 38))
      (Old (((w.alloc (.cells #[.int .i64 1] 3)).alloc (.cells #[.int .i64 1, .int .i64 0] 40)).alloc
      (.cells #[.int .i64 0, .slice (some ⟨n, 0, none⟩) 1 1, .slice none 0 0, .int .i64 1, .slice none 0 0, .slice (some ⟨n + 1, 0, none⟩) 1 1] 38)))
      (.slice (some ⟨n + 2, 0, none⟩) wk7T.length 2) wk7T := by
  subst hn
  have b0 := ((Blk.new w 3 #[.int .i64 1]).alloc (.cells #[.int .i64 1, .int .i64 0] 40)).alloc (.cells #[.int .i64 0, .slice (some ⟨w.heap.size, 0, none⟩) 1 1, .slice none 0 0, .int .i64 1, .slice none 0 0, .slice (some ⟨w.heap.size + 1, 0, none⟩) 1 1] 38)
  have b1 := (Blk.new (w.alloc (.cells #[.int .i64 1] 3)) 40 #[.int .i64 1, .int .i64 0]).alloc (.cells #[.int .i64 0, .slice (some ⟨w.heap.size, 0, none⟩) 1 1, .slice none 0 0, .int .i64 1, .slice none 0 0, .slice (some ⟨w.heap.size + 1, 0, none⟩) 1 1] 38)
  have b2 := Blk.new ((w.alloc (.cells #[.int .i64 1] 3)).alloc (.cells #[.int .i64 1, .int .i64 0] 40)) 38 #[.int .i64 0, .slice (some ⟨w.heap.size, 0, none⟩) 1 1, .slice none 0 0, .int .i64 1, .slice none 0 0, .slice (some ⟨w.heap.size + 1, 0, none⟩) 1 1]
  simp only [World.size_alloc] at b1 b2
  generalize hW : ((w.alloc (.cells #[.int .i64 1] 3)).alloc (.cells #[.int .i64 1, .int .i64 0] 40)).alloc
      (.cells #[.int .i64 0, .slice (some ⟨w.heap.size, 0, none⟩) 1 1, .slice none 0 0, .int .i64 1, .slice none 0 0, .slice (some ⟨w.heap.size + 1, 0, none⟩) 1 1] 38) = W at *
  refine SlR.of_blk (l := wk7T) [[.int .i64 0, .slice (some ⟨w.heap.size, 0, none⟩) 1 1, .slice none 0 0], [.int .i64 1, .slice none 0 0, .slice (some ⟨w.heap.size + 1, 0, none⟩) 1 1]] b2 rfl (fun i cs x h1 h2 => ?_) b2.lt (by simp [wk7T])
  match i with
  | 0 =>
    simp [wk7T] at h1 h2
    subst h1 h2
    exact ⟨rfl, _, _, rfl, SlR.one b0 rfl rfl b0.lt, SlR.nil _ _ _ _ _ _⟩
  | 1 =>
    simp [wk7T] at h1 h2
    subst h1 h2
    exact ⟨rfl, _, _, rfl, SlR.nil _ _ _ _ _ _, SlR.one b1 rfl rfl b1.lt⟩
  | i + 2 => simp at h1

theorem look_small (ops : List Ev) : (lookR ops).reads.length ≤ 16 ∧ (lookR ops).writes.length ≤ 16 := look_len ops
theorem one_small (l : List Tx) (t : Tx) : (oneR l t).1.writes.length ≤ 16 ∧ (oneR l t).1.reads.length ≤ 16 := by
  have := look_len t.ops
  unfold oneR
  dsimp only
  cases firstN (lookR t.ops).reads.length (readE l (lookR t.ops).reads) with
  | some i => exact ⟨by simp, by simp⟩
  | none => simp; omega
theorem histR_ways (l : List Tx) : ((histR l).1 = [] ∧ ∃ i : Nat, (histR l).2.1 = (i : Int) ∧ (i = 0 ∨ i < l.length) ∧ (histR l).2.2 ≠ 0) ∨
    (histR l = (txnsTo l l.length, 0, 0) ∧ l.length ≤ 32 ∧ (∀ j, j < l.length → mayAt l j = 0) ∧ (∀ j, j < l.length → unlikeR l j = 0) ∧ (∀ j, j < l.length → lookAt l j = 0) ∧ (∀ j, j < l.length → oneAt l j = 0)) := by
  by_cases h : 32 < l.length
  · rw [histR_many h]; exact .inl ⟨rfl, 0, rfl, .inl rfl, by decide⟩
  · rcases firstN_ways l.length (mayAt l) with ⟨k, hk, hj, hb, _⟩ | ⟨h1, _⟩
    · rw [histR_may h hk hj hb]; exact .inl ⟨rfl, k, rfl, .inr hk, hb⟩
    · rcases firstN_ways l.length (unlikeR l) with ⟨k, hk, hj, hb, _⟩ | ⟨h2, _⟩
      · rw [histR_unlike h h1 hk hj hb]; exact .inl ⟨rfl, k, rfl, .inr hk, hb⟩
      · rcases firstN_ways l.length (lookAt l) with ⟨k, hk, hj, hb, _⟩ | ⟨h3, _⟩
        · rw [histR_look h h1 h2 hk hj hb]; exact .inl ⟨rfl, k, rfl, .inr hk, hb⟩
        · rcases firstN_ways l.length (oneAt l) with ⟨k, hk, hj, hb, _⟩ | ⟨h4, _⟩
          · rw [histR_one h h1 h2 h3 hk hj hb]; exact .inl ⟨rfl, k, rfl, .inr hk, hb⟩
          · exact .inr ⟨histR_good h h1 h2 h3 h4, by omega, h1, h2, h3, h4⟩
theorem histR_smallH (l : List Tx) : SmallH (histR l).1 := by
  rcases histR_ways l with ⟨h, _⟩ | ⟨h, hn, _⟩
  · rw [h]; exact ⟨by simp, by simp⟩
  · rw [h]
    refine ⟨?_, fun t ht => ?_⟩
    · show (txnsTo l l.length).length ≤ _
      unfold txnsTo
      rw [List.length_map]
      exact Nat.le_trans (List.length_filter_le _ _) (by rw [List.length_take]; omega)
    · have ht : t ∈ txnsTo l l.length := ht
      unfold txnsTo at ht
      obtain ⟨u, _, rfl⟩ := List.mem_map.1 ht
      have := one_small l u
      omega

end Go.Proofs.YtphcebgpllecjaaGreatDoor

namespace Go.Proofs.YtphcebgpllecjaaGreatDoor
open Go.RowKit Go.Inq
set_option maxHeartbeats 4000000
attribute [local go_sem ↓] Go.wp_at_zero Go.wp_at_succ

def text8 : List UInt8 := [98, 101, 103, 105, 110, 32, 48, 10, 119, 114, 105, 116, 101, 32, 48, 32, 49, 32, 49, 10, 99, 111, 109, 109, 105, 116, 32, 48, 10, 98, 101, 103, 105, 110, 32, 49, 10, 114, 101, 97, 100, 32, 49, 32, 49, 32, 49, 10, 99, 111, 109, 109, 105, 116, 32, 49, 10]
def zero8 : List UInt8 := [98, 101, 103, 105, 110, 32, 48, 10, 119, 114, 105, 116, 101, 32, 48, 32, 49, 32, 48, 10, 99, 111, 109, 109, 105, 116, 32, 48, 10]
theorem ex8_show : showH wk7T = (text8, 0) := by rfl
theorem ex8_parse : parseH text8 = (wk7T, 0, 0) := by
  have := (hist_back (H := wk7T) (by rw [ex8_show])).2
  rwa [ex8_show] at this
theorem ex8_zero : parseH zero8 = ([], 1, 7) := by rfl
theorem ex8_right : rightH wk7T = true := by rfl
theorem ex8_wrong : rightH [⟨8, [], []⟩] = false := by rfl
theorem parseH_small (s : List UInt8) : SmallH (parseH s).1 := by
  unfold parseH
  split
  · exact ⟨by simp, by simp⟩
  · split
    · exact ⟨by simp, by simp⟩
    · split
      · exact ⟨by simp, by simp⟩
      · exact histR_smallH _
theorem showH_len (H : List Txn) : (showH H).1.length ≤ 1000000 := by
  unfold showH
  split
  · simp
  · by_cases h : 400 < (eventsR (txsOf H)).length
    · rw [showD_many h]; simp
    · by_cases hb : ∃ e ∈ eventsR (txsOf H), e.right = false
      · rw [showD_bad h hb]; simp
      · rw [showD_good h fun e he => by
          cases g : e.right with
          | true => rfl
          | false => exact absurd ⟨e, he, g⟩ hb]
        have := textD_len (eventsR (txsOf H))
        unfold textD at this
        dsimp only
        omega
theorem HistOut.open {r : List Txn × Int × Int} {w : World} {e : Ending} {w' : World} (h : HistOut r w e w') :
    ∃ A c, e = .returned (.tuple #[.agg #[.slice A r.1.length c], .int .i64 r.2.1, .int .i64 r.2.2]) ∧ TxnS w' (Old w') (.slice A r.1.length c) r.1 ∧ Below w.heap.size w w' := by
  obtain ⟨v, he, hv, hb⟩ := h
  obtain ⟨A, c, rfl⟩ := SlR.form hv
  exact ⟨A, c, he, TxnS.fit hv (fun b h => h.2), hb⟩
theorem wk7T_small : SmallH wk7T := ⟨by simp [wk7T], fun t ht => by simp [wk7T] at ht; rcases ht with rfl | rfl <;> simp⟩
theorem one8_txn (w : World) : TxnS (w.alloc (.cells #[.int .i64 8, .slice none 0 0, .slice none 0 0] 38)) (Old (w.alloc (.cells #[.int .i64 8, .slice none 0 0, .slice none 0 0] 38))) (.slice (some ⟨w.heap.size, 0, none⟩) 1 1) [⟨8, [], []⟩] :=
  SlR.one (Blk.new _ _ _) rfl ⟨_, _, rfl, SlR.nil _ _ _ _ _ _, SlR.nil _ _ _ _ _ _⟩ (by show _ < _; simp)
set_option maxRecDepth 100000 in
theorem awake8_any (w : World) (henv : Env w) : Calls Tryz.prog 4 #[] w fun e w' => e = .returned (.bool true) ∧ Below w.heap.size w w' := by
  have hT0 := wk7_txn w w.heap.size rfl
  have hB0 := wk7_below w (.cells #[.int .i64 1] 3) (.cells #[.int .i64 1, .int .i64 0] 40) (.cells #[.int .i64 0, .slice (some ⟨w.heap.size, 0, none⟩) 1 1, .slice none 0 0, .int .i64 1, .slice none 0 0, .slice (some ⟨w.heap.size + 1, 0, none⟩) 1 1] 38)
  have hsz : (((w.alloc (.cells #[.int .i64 1] 3)).alloc (.cells #[.int .i64 1, .int .i64 0] 40)).alloc (.cells #[.int .i64 0, .slice (some ⟨w.heap.size, 0, none⟩) 1 1, .slice none 0 0, .int .i64 1, .slice none 0 0, .slice (some ⟨w.heap.size + 1, 0, none⟩) 1 1] 38)).heap.size = w.heap.size + 3 := by simp
  replace hsz := hide hsz
  go_enter Tryz.func4, Tryz.ntmps4
  go_wp2_with fail
  generalize ((w.alloc (.cells #[.int .i64 1] 3)).alloc (.cells #[.int .i64 1, .int .i64 0] 40)).alloc (.cells #[.int .i64 0, .slice (some ⟨w.heap.size, 0, none⟩) 1 1, .slice none 0 0, .int .i64 1, .slice none 0 0, .slice (some ⟨w.heap.size + 1, 0, none⟩) 1 1] 38) = W0 at *
  have kh : Blk (W0.alloc (.cells #[.slice (some ⟨w.heap.size + 1 + 1, 0, none⟩) 2 2] 24)) (w.heap.size + 1 + 1 + 1) 24 #[.slice (some ⟨w.heap.size + 1 + 1, 0, none⟩) 2 2] := by
    have := Blk.new W0 24 #[.slice (some ⟨w.heap.size + 1 + 1, 0, none⟩) 2 2]
    rw [hsz.out] at this
    exact this
  have hT1 : TxnS W0 (Old W0) (.slice (some ⟨w.heap.size + 1 + 1, 0, none⟩) wk7T.length 2) wk7T := hT0
  have hB1 := hB0.alloc hB0.size (.cells #[.slice (some ⟨w.heap.size + 1 + 1, 0, none⟩) 2 2] 24)
  replace hT1 := TxnS.below hT1 ((Below.refl _ _).alloc (Nat.le_refl _) (.cells #[.slice (some ⟨w.heap.size + 1 + 1, 0, none⟩) 2 2] 24))
  have e1 := henv.below hB1
  clear hT0 hB0 hsz henv
  generalize W0.alloc (.cells #[.slice (some ⟨w.heap.size + 1 + 1, 0, none⟩) 2 2] 24) = W1 at *
  generalize w.heap.size + 1 + 1 + 1 = Bh at *
  generalize w.heap.size + 1 + 1 = Bt at *
  have h1 := hide ex8_show
  have h2 := hide ex8_parse
  have h3 := hide ex8_zero
  have h4 := hide ex8_right
  have h5 := hide ex8_wrong
  have hc := show8_any (some ⟨Bt, 0, none⟩) 2 wk7T W1 hT1 wk7T_small e1
  rw [h1.out] at hc
  refine hc.mono ?_
  rintro e w2 ⟨rfl, hb2⟩
  have hT2 := TxnS.below hT1 hb2
  have B2 := hB1.trans (hb2.mono hB1.size)
  have e2 := e1.below hb2
  have k2 := kh.below hb2 kh.lt
  clear hc hT1 hB1 e1 kh hb2
  have hc := parse8_any (mk text8) w2 (by decide) e2
  rw [show (mk text8).data.toList = text8 from by simp [mk], h2.out] at hc
  dsimp only at hc ⊢
  go_wp2_with fail
  refine hc.mono ?_
  clear hc
  intro e w3 ho
  obtain ⟨A3, c3, rfl, r3, hb3⟩ := ho.open
  clear ho
  have hT3 := TxnS.below hT2 hb3
  have B3 := B2.trans (hb3.mono B2.size)
  have e3 := e2.below hb3
  have k3 := k2.below hb3 k2.lt
  clear hT2 B2 e2 k2 hb3
  have hA : Below w3.heap.size w3 (w3.alloc (.cells #[.slice A3 wk7T.length c3] 24)) := (Below.refl _ _).alloc (Nat.le_refl _) _
  have g3 : Blk (w3.alloc (.cells #[.slice A3 wk7T.length c3] 24)) w3.heap.size 24 #[.slice A3 wk7T.length c3] := Blk.new _ _ _
  have hT4 := TxnS.below hT3 hA
  have r4 := TxnS.below r3 hA
  have B4 := B3.trans (hA.mono B3.size)
  have e4 := e3.below hA
  have k4 := k3.below hA k3.lt
  have hc := parse8_any (mk zero8) _ (by decide) e4
  rw [show (mk zero8).data.toList = zero8 from by simp [mk], h3.out] at hc
  clear hT3 B3 e3 k3 hA r3
  go_wp2_with fail
  refine Calls.mono (by exact hc) ?_
  clear hc
  intro e w5 ho
  obtain ⟨A5, c5, rfl, -, hb5⟩ := ho.open
  clear ho
  dsimp only
  have hb6 := hb5.alloc hb5.size (.cells #[.slice A5 0 c5] 24)
  have hT6 := TxnS.below hT4 hb6
  have r6 := TxnS.below r4 hb6
  have B6 := B4.trans (hb6.mono B4.size)
  have k6 := k4.below hb6 k4.lt
  have g6 := g3.below hb6 g3.lt
  clear hT4 B4 e4 k4 hb5 hb6 r4 g3
  have y0 := k6.cell 0
  have z0 := g6.cell 0
  simp only [List.getElem?_toArray, List.getElem?_cons_zero] at y0 z0
  have hcmp : (mk text8).toList = [98, 101, 103, 105, 110, 32, 48, 10, 119, 114, 105, 116, 101, 32, 48, 32, 49, 32, 49, 10, 99, 111, 109, 109, 105, 116, 32, 48, 10, 98, 101, 103, 105, 110, 32, 49, 10, 114, 101, 97, 100, 32, 49, 32, 49, 32, 49, 10, 99, 111, 109, 109, 105, 116, 32, 49, 10] := by rw [Lib.toList_data]; rfl
  go_wp2_with fail
  refine Calls.mono (by exact same07_any A3 (some ⟨Bt, 0, none⟩) c3 2 wk7T wk7T _ r6 hT6 wk7T_small wk7T_small) ?_
  rintro e w7 ⟨rfl, hb7⟩
  simp only [decide_true]
  have hT7 := TxnS.below hT6 hb7
  have B7 := B6.trans (hb7.mono B6.size)
  have k7 := k6.below hb7 k6.lt
  clear hT6 B6 k6 g6 y0 z0 hb7 r6
  have y0 := k7.cell 0
  simp only [List.getElem?_toArray, List.getElem?_cons_zero] at y0
  have hc := right8_any (some ⟨Bt, 0, none⟩) 2 wk7T w7 hT7 wk7T_small
  rw [h4.out] at hc
  go_wp2_with fail
  refine Calls.mono (by exact hc) ?_
  clear hc
  rintro e w8 ⟨rfl, hb8⟩
  dsimp only
  have B8 := B7.trans (hb8.mono B7.size)
  have B9 := B8.alloc B8.size (.cells #[.int .i64 8, .slice none 0 0, .slice none 0 0] 38)
  have hc := right8_any (some ⟨w8.heap.size, 0, none⟩) 1 [⟨8, [], []⟩] _ (one8_txn w8) ⟨by simp, by simp⟩
  rw [h5.out] at hc
  clear hT7 B7 k7 y0 hb8 B8
  go_wp2_with fail
  refine Calls.mono (by exact hc) ?_
  rintro e w9 ⟨rfl, hb9⟩
  go_wp2
  go_ret
  exact ⟨by simp, B9.trans (hb9.mono B9.size)⟩
end Go.Proofs.YtphcebgpllecjaaGreatDoor

namespace Go.Proofs.YtphcebgpllecjaaGreatDoor
open Go.RowKit Go.Inq
set_option maxHeartbeats 2000000
attribute [local go_sem ↓] Go.wp_at_zero Go.wp_at_succ

/-- Few transactions, with few reads and writes. -/
def fewH (l : List Txn) : Bool := decide (l.length ≤ 40) && l.all fun t => decide (t.writes.length ≤ 20) && decide (t.reads.length ≤ 20)
theorem fewH_small {l : List Txn} (h : fewH l = true) : SmallH l := by
  unfold fewH at h
  rw [Bool.and_eq_true, List.all_eq_true] at h
  have h1 : l.length ≤ 40 := by simpa using h.1
  refine ⟨by omega, fun t ht => ?_⟩
  have := h.2 t ht
  simp at this
  omega
theorem fewH_bad {l : List Txn} {i : Nat} (hi : i < l.length) (h : 20 < l[i].writes.length ∨ 20 < l[i].reads.length) : fewH l = false := by
  rw [← Bool.not_eq_true]
  intro g
  unfold fewH at g
  rw [Bool.and_eq_true, List.all_eq_true] at g
  have := g.2 _ (List.getElem_mem hi)
  simp at this
  omega
theorem fewH_many {l : List Txn} (h : 40 < l.length) : fewH l = false := by
  unfold fewH; rw [show decide (l.length ≤ 40) = false by simpa using h]; rfl
theorem fewH_good {l : List Txn} (h : l.length ≤ 40) (hall : ∀ i (hi : i < l.length), l[i].writes.length ≤ 20 ∧ l[i].reads.length ≤ 20) : fewH l = true := by
  unfold fewH
  rw [Bool.and_eq_true, List.all_eq_true]
  refine ⟨by simpa using h, fun t ht => ?_⟩
  obtain ⟨i, hi, rfl⟩ := List.getElem_of_mem ht
  have := hall i hi
  simp
  omega
set_option maxRecDepth 100000 in
theorem few8_any (A : Option Addr) (c : Nat) (H : List Txn) (w : World) (h : TxnS w (Old w) (.slice A H.length c) H) (hn : H.length ≤ maxLen) (hns : ∀ t ∈ H, t.writes.length ≤ maxLen ∧ t.reads.length ≤ maxLen) :
    Calls Tryz.prog 5 #[.agg #[.slice A H.length c], .int .i64 40] w fun e w' => e = .returned (.bool (fewH H)) ∧ Below w.heap.size w w' := by
  unfold maxLen at hn hns
  have hA : Below w.heap.size w (w.alloc (.cells #[.slice A H.length c] 24)) := (Below.refl _ _).alloc (Nat.le_refl _) _
  have kh : Blk (w.alloc (.cells #[.slice A H.length c] 24)) w.heap.size 24 #[.slice A H.length c] := Blk.new _ _ _
  have h1 := TxnS.below h hA
  have y0 := kh.cell 0
  simp only [List.getElem?_toArray, List.getElem?_cons_zero] at y0
  have hl1 : (0 : Int) ≤ (H.length : Int) := Int.natCast_nonneg _
  replace hns := hide hns
  by_cases hm : 40 < H.length
  · have hr := hide (fewH_many hm)
    have hmb : decide ((H.length : Int) > 40) = true := by simp; omega
    clear hm
    go_enter Tryz.func5, Tryz.ntmps5
    go_wp2
    go_ret
    exact ⟨by rw [hr.out]; rfl, hA⟩
  · have hmb : decide ((H.length : Int) > 40) = false := by simp; omega
    have hbad := hide (fun i => fewH_bad (l := H) (i := i))
    have hgood := hide (fewH_good (l := H) (by omega))
    go_enter Tryz.func5, Tryz.ntmps5
    go_wp2_with fail
    generalize w.alloc (.cells #[.slice A H.length c] 24) = W at *
    go_loop [5] (fun s5 => ∃ i : Nat, i ≤ H.length ∧ s5 = .int .i64 i ∧ Hid (∀ j (hj : j < H.length), j < i → H[j].writes.length ≤ 20 ∧ H[j].reads.length ≤ 20)) (fun s5 => H.length - (intOf s5).toNat)
    case atStart => exact ⟨0, Nat.zero_le _, by go_num, fun j hj h => absurd h (by omega)⟩
    case round =>
      obtain ⟨i, hi, rfl, hall⟩ := hrel
      have hi1 : (0 : Int) ≤ (i : Int) := Int.natCast_nonneg _
      by_cases hlt : i < H.length
      · have hi2 : (i : Int) < (H.length : Int) := by omega
        obtain ⟨b, off, Aw, cw, Ar, cr, rfl, hbK, d0, d1, d2, hws, hrs⟩ := TxnS.at_ h1 hlt
        have hb := hide (hbad.out i hlt)
        have hsm := hns.out _ (List.getElem_mem hlt)
        have hst : Hid (H[i].writes.length ≤ 20 ∧ H[i].reads.length ≤ 20 → ∀ j (hj : j < H.length), j < i + 1 → H[j].writes.length ≤ 20 ∧ H[j].reads.length ≤ 20) := fun g j hj hji => by
          by_cases e : j = i
          · subst e; exact g
          · exact hall.out j hj (by omega)
        clear hall hws hrs
        generalize H[i] = t at *
        obtain ⟨ts, ws, rs⟩ := t
        dsimp only at *
        by_cases g1 : 20 < ws.length
        · have g1b : decide ((ws.length : Int) > 20) = true := by simp; omega
          have hr := hide (hb.out (.inl g1))
          clear g1 hb hst
          go_wp2
          go_ret
          exact ⟨by rw [hr.out]; rfl, hA⟩
        · have g1b : decide ((ws.length : Int) > 20) = false := by simp; omega
          by_cases g2 : 20 < rs.length
          · have g2b : decide ((rs.length : Int) > 20) = true := by simp; omega
            have hr := hide (hb.out (.inr g2))
            clear g2 hb hst
            go_wp2
            go_ret
            exact ⟨by rw [hr.out]; rfl, hA⟩
          · have g2b : decide ((rs.length : Int) > 20) = false := by simp; omega
            have hr := hide (hst.out ⟨by omega, by omega⟩)
            clear hb hst
            go_wp2
            go_round
            case rel => exact ⟨i + 1, by omega, by go_num, hr⟩
            case measure => simp [intOf]; omega
      · have hr := hide (hgood.out fun j hj => hall.out j hj (by omega))
        go_wp2
        go_ret
        exact ⟨by rw [hr.out]; rfl, hA⟩
end Go.Proofs.YtphcebgpllecjaaGreatDoor

namespace Go.Proofs.YtphcebgpllecjaaGreatDoor
open Go.ChangeShapes Go.WideShapes Go.ChangeAt Go.RowKit Go.Inq

theorem own : ownKnob Tryz.prog.godebug = none := by kernel_rfl
theorem laidOut : laidOutB Tryz.prog = true := by kernel_rfl
theorem Glob.of {W : World} (h : W.ShapedOpen Tryz.prog) : Glob W :=
  cell_of_shapedOpen_int (zero := #[.int .i64 0]) (t := 3) h (of_decide_eq_true (by kernel_rfl)) (by kernel_rfl) rfl (by kernel_rfl) (by kernel_rfl) Tryz.underlying3

theorem returnsInHanded_shaped_and {H : Type} {enc : TypeId × Value → H} {a : Assume} {C : Checked} {os : Os} {f : FuncId} {fn : Func} {s : ChangeSpec} {conds : List PathCond} {apart fresh handsOn again : Bool} {X : World → Array Value → Prop}
    (hX : ∀ (w w' : World) (args : Array Value), w.heap = w'.heap → X w args → X w' args)
    (own : ownKnob C.prog.godebug = none) (started : os.Started) (noInit : C.prog.inits.idxOf? f = none) (hfn : C.prog.funcs[f]? = some fn)
    (witness : ∃ (w : World) (tape : Tape) (i : Input), w.os = os ∧ (w.forCall tape i).Shaped C.prog ∧ i.vars = [] ∧ Input.okWide C.prog (w.forCall tape i) .any w.heap.size f i ∧
      ((s.pre enc C.prog fn conds apart (w.forCall tape i).memory i.args ∧ X (w.forCall tape i).memory i.args) ∧ sizedMet enc C.prog fn (OpenSpec.ofChange s) apart (w.forCall tape i).memory i.args) ∧ a.holds C.prog (lone (Frame.enter C.prog f i.args .normal) [] (w.forCall tape i)))
    (contract : ∀ (W : World) (base : Nat) (args : Array Value) (ds gs : List (DataW H)) (before : List MemPlace),
      (∀ (j : Nat) t v, fn.params[j]? = some t → args[j]? = some v → Value.okWide C.prog W .any base t v) →
      DataW.Whole enc C.prog fn.params.toList s.vars apart W args.toList ds gs before →
      X W args → W.ShapedOpen C.prog →
      Calls C.prog f args W fun e W' => ∃ v, e = .returned v ∧ s.post enc C.prog fn apart fresh handsOn again W args v W') :
    ReturnsInHanded a C os f .any (fun w args => (s.pre enc C.prog fn conds apart w args ∧ X w args) ∧ sizedMet enc C.prog fn (OpenSpec.ofChange s) apart w args) (s.post enc C.prog fn apart fresh handsOn again) := by
  refine returnsInHanded_of_calls own started noInit witness ?_
  intro w tape i _ hsh _ hok hpre hholds
  obtain ⟨_, _, _, fn', hfn', _, _, _, _, hval⟩ := hok
  have e : fn' = fn := Option.some.inj (hfn'.symm.trans hfn)
  subst e
  obtain ⟨⟨⟨ds, gs, before, hw, hc⟩, hx⟩, hz⟩ := hpre
  have hw' := DataW.Whole.of_heap (w' := w.forCall tape i) (by rfl) hw
  refine (contract (w.forCall tape i) w.heap.size i.args ds gs before hval hw' (hX _ _ _ (by rfl) hx) hsh).mono fun e W' ⟨v, he, hp⟩ => ?_
  subst he
  exact ChangeSpec.post_blind hp

/-- Types whose data stay readable in a world that only grew. -/
def keptTypes (P : Program) (ts : List TypeId) : Bool := ts.all fun t => P.readableRec t && decide (t < P.types.size)
theorem Below.trodAllP {P : Program} (hl : laidOutB P = true) {H : Type} {enc : TypeId × Value → H} {W W' : World} (hb : Below W.heap.size W W') : ∀ (ts : List TypeId) (vs : List Value) (ds : List (DataW H)) (ps : List MemPlace), keptTypes P ts = true →
    DataW.TrodAll enc P W 0 (fun _ => true) true ts vs ds ps → (∀ x ∈ ps, x.block < W.heap.size) → DataW.TrodAll enc P W' 0 (fun b => decide (b < W.heap.size)) true ts vs ds ps := by
  intro ts
  induction ts with
  | nil =>
    intro vs ds ps _ h _
    cases vs with
    | cons => exact h.elim
    | nil =>
      cases ds with
      | cons => exact h.elim
      | nil => exact h
  | cons t ts ih =>
    intro vs ds ps hk h hlt
    cases vs with
    | nil => exact h.elim
    | cons v vs =>
      cases ds with
      | nil => exact h.elim
      | cons d ds =>
        obtain ⟨p, q, h1, h2, rfl⟩ := h
        unfold keptTypes at hk
        rw [List.all_cons, Bool.and_eq_true, Bool.and_eq_true] at hk
        exact ⟨p, q, Below.trod hl hk.1.1 (of_decide_eq_true hk.1.2) h1 hb (fun x hx => hlt x (List.mem_append.2 (.inl hx))), ih _ _ _ hk.2 h2 (fun x hx => hlt x (List.mem_append.2 (.inr hx))), rfl⟩
theorem Below.trodAll {H : Type} {enc : TypeId × Value → H} {W W' : World} (hb : Below W.heap.size W W') {ts : List TypeId} {vs : List Value} {ds : List (DataW H)} {ps : List MemPlace} (hk : keptTypes Tryz.prog ts = true)
    (h : DataW.TrodAll enc Tryz.prog W 0 (fun _ => true) true ts vs ds ps) (hlt : ∀ x ∈ ps, x.block < W.heap.size) : DataW.TrodAll enc Tryz.prog W' 0 (fun b => decide (b < W.heap.size)) true ts vs ds ps :=
  Below.trodAllP laidOut hb ts vs ds ps hk h hlt

section
variable {H : Type} {enc : TypeId × Value → H} {w : World} {base : Nat} {spare : Nat → Bool} {held : Bool}
theorem str_size {v : ByteArray} {d : DataW H} {ps : List MemPlace} (h : DataW.Trod enc Tryz.prog w base spare held 9 (.string v) d ps) : v.size ≤ maxLen := by
  obtain ⟨n, hn⟩ := h
  obtain ⟨s, e1, _, h2⟩ := DataW.trod_string Tryz.underlying9 hn
  simp [Value.cells] at e1
  subst e1
  exact h2
/-- A slice of strings, opened to a list. -/
theorem open_strs {n : Nat} {v : Value} {x : DataW H × List MemPlace} (h : DataW.trod enc Tryz.prog w base spare held n 68 [v] = some x) :
    ∃ (A : Option Addr) (c : Nat) (l : List ByteArray), v = .slice A l.length c ∧ StrS w (Old w) (.slice A l.length c) l ∧ l.length ≤ maxLen ∧ ∀ s ∈ l, s.size ≤ maxLen := by
  rcases open_strings Tryz.underlying68 Tryz.underlying9 (by kernel_rfl) h with ⟨h1, _⟩ | ⟨a, len, cap, ss, h1, _, hl, hm, hss, _, hc, hsz⟩
  · injection h1 with h1
    exact ⟨none, 0, [], h1, StrS.nil _ _ _ _, Nat.zero_le _, fun s hs => by simp at hs⟩
  · injection h1 with h1
    subst h1
    have hlen : len ≤ ss.length := by rw [hss]; split <;> omega
    have hl2 : (ss.take len).length = len := by rw [List.length_take]; omega
    refine ⟨some a, cap, ss.take len, by rw [hl2], ?_, by omega, fun s hs => hsz s (List.mem_of_mem_take hs)⟩
    refine ⟨some a, cap, (ss.take len).map encS, rfl, by omega, by simp, fun i cs x g1 g2 => ?_, fun h0 => ?_⟩
    · rw [List.getElem?_map, g2] at g1
      injection g1 with g1
      exact ⟨by rw [← g1]; rfl, g1.symm⟩
    · rw [hl2] at h0
      have hc0 := hc 0 (by omega)
      obtain ⟨_, _, _, _, hs⟩ := World.shape?_of_cell? hc0
      obtain ⟨b, o, sp⟩ := a
      have hsp : sp = none := by
        cases sp with
        | none => rfl
        | some q => simp [Addr.add] at hs
      subst hsp
      refine ⟨b, o, rfl, block_lt_of_cell hc0, fun i j cs u g1 g2 => ?_⟩
      rw [List.getElem?_map] at g1
      cases hr : (ss.take len)[i]? with
      | none => rw [hr] at g1; cases g1
      | some y =>
        rw [hr] at g1
        injection g1 with g1
        subst g1
        rw [List.getElem?_take] at hr
        split at hr
        · have hi : i < ss.length := by omega
          have := hc i hi
          rw [Addr.add_lit, List.getD, hr] at this
          cases j with
          | zero =>
            injection g2 with g2
            rw [Nat.mul_one, Nat.add_zero, ← g2]
            exact this
          | succ j => simp [encS] at g2
        · cases hr
end
end Go.Proofs.YtphcebgpllecjaaGreatDoor

namespace Go.Proofs.YtphcebgpllecjaaGreatDoor
open Go.Joins Go.ChangeShapes Go.WideShapes Go.ChangeAt Go.RowKit Go.Deep Go.Inq

theorem tab_of {l : List (String × DataW Unit)} {W : World} (h : laidMet Tryz.prog l W) (hm : ("internal/strconv.uint64pow10", Rows.laid_internal_strconv_uint64pow10) ∈ l) : Tab W := by
  obtain ⟨g, t, cs, fuel, p, hg, ht, hv, hd⟩ := Lib.laidMet.reads h hm
  obtain rfl := Option.some.inj ((show Tryz.prog.globalNamed "internal/strconv.uint64pow10" = some 4 by kernel_rfl).symm.trans hg)
  obtain rfl := Option.some.inj ((show (Tryz.prog.globals[4]?).map (·.type) = some 181 by kernel_rfl).symm.trans ht)
  have hc := Lib.cells_of_tab (k := .u64) (zs := Lib.pow10Tab) Tryz.underlying181 Tryz.underlying168 (by kernel_rfl) (by kernel_rfl) hd
  unfold Tab Lib.TabIs
  rw [hv, ← hc]
theorem words_of {l : List (String × DataW Unit)} {W : World} (h : laidMet Tryz.prog l W) (hm : ("inquest/event.words", Rows.laid_inquest_event_words) ∈ l) : WordsG W := by
  obtain ⟨g, t, cs, fuel, p, hg, ht, hv, hd⟩ := Lib.laidMet.reads h hm
  obtain rfl := Option.some.inj ((show Tryz.prog.globalNamed "inquest/event.words" = some 0 by kernel_rfl).symm.trans hg)
  obtain rfl := Option.some.inj ((show (Tryz.prog.globals[0]?).map (·.type) = some 111 by kernel_rfl).symm.trans ht)
  obtain ⟨xs, m, _, ex, _, hl, hel⟩ := DataW.trod_array Tryz.underlying111 hd
  have c5 : Tryz.prog.cellsOf 9 = 1 := by kernel_rfl
  intro k hk
  have hE := hel k hk
  rw [c5, Nat.mul_one, List.getElem?_eq_getElem (by omega)] at hE
  obtain ⟨z, e1, e2, _⟩ := DataW.trod_string Tryz.underlying9 hE
  have e3 : (xs.map (·.1)) = [0, 1, 2, 3, 4].map fun k => .lit (.string (wordK k)) := (DataW.agg.inj (Prod.mk.inj ex).1).symm
  have e4 : (xs.map (·.1))[k]? = some (.lit (.string (wordK k))) := by
    rw [e3]
    obtain rfl | rfl | rfl | rfl | rfl : k = 0 ∨ k = 1 ∨ k = 2 ∨ k = 3 ∨ k = 4 := by omega
    all_goals rfl
  rw [List.getElem?_map, List.getElem?_eq_getElem (by omega : k < xs.length), e2] at e4
  have hz : z.data.toList = wordK k := by simpa using e4
  rw [World.var?_cell hg hv k]
  have : cs.toList[k]? = some (.string z) := by
    have h0 : ((cs.toList.drop k).take 1)[0]? = some (.string z) := by rw [e1]; rfl
    simpa using h0
  rw [← hz, mk_of]
  simpa using this
theorem Env.of {l : List (String × DataW Unit)} {W : World} (hs : W.ShapedOpen Tryz.prog) (h : laidMetH Tryz.prog l W) (hp : laidMetH Tryz.prog l W = laidMet Tryz.prog l W)
    (h1 : ("internal/strconv.uint64pow10", Rows.laid_internal_strconv_uint64pow10) ∈ l) (h2 : ("inquest/event.words", Rows.laid_inquest_event_words) ∈ l) : Env W := by
  rw [hp] at h
  exact ⟨Glob.of hs, tab_of h h1, words_of h h2⟩

section
variable {H : Type} {enc : TypeId × Value → H} {w : World} {base : Nat} {spare : Nat → Bool} {held : Bool}

/-- Four cells of numbers that read as a struct. -/
theorem open_event {n : Nat} {cs : List Value} {x : DataW H × List MemPlace} (hC : Tryz.prog.cellsOf 56 = 4) (h : DataW.trod enc Tryz.prog w base spare held n 56 cs = some x) : ∃ e : Ev, cs = e.enc := by
  obtain ⟨y0, y1, y2, y3, n', _, hl, h0, h1, h2, h3⟩ := trod_struct4 Tryz.underlying56 h
  rw [hC] at hl
  have h31 : Tryz.prog.cellsOf 3 = 1 := by kernel_rfl
  simp only [h31] at h0 h1 h2 h3
  match cs, hl with
  | [a, b, c, d], _ =>
    obtain ⟨k0, e0, _⟩ := DataW.trod_int Tryz.underlying3 h0
    obtain ⟨k1, e1, _⟩ := DataW.trod_int Tryz.underlying3 h1
    obtain ⟨k2, e2, _⟩ := DataW.trod_int Tryz.underlying3 h2
    obtain ⟨k3, e3, _⟩ := DataW.trod_int Tryz.underlying3 h3
    simp at e0 e1 e2 e3
    exact ⟨⟨k0, k1, k2, k3⟩, by simp [Ev.enc, e0, e1, e2, e3]⟩

/-- A slice of events, opened to a list. -/
theorem open_events {n : Nat} {v : Value} {x : DataW H × List MemPlace} (h : DataW.trod enc Tryz.prog w base spare held n 41 [v] = some x) :
    ∃ (A : Option Addr) (c : Nat) (l : List Ev), v = .slice A l.length c ∧ EvS w (Old w) (.slice A l.length c) l ∧ l.length ≤ maxLen := by
  have hC : Tryz.prog.cellsOf 56 = 4 := by kernel_rfl
  rcases open_slice Tryz.underlying41 h with ⟨h1, _⟩ | ⟨a, len, cap, m, n', D, Pl, h1, _, hl, hm, hmm, hx, hi⟩
  · injection h1 with h1
    exact ⟨none, 0, [], h1, SlR.nil _ _ _ _ _ _, Nat.zero_le _⟩
  · injection h1 with h1
    subst h1
    rw [hC] at hi
    have hlm : len ≤ m := by rw [hmm]; split <;> omega
    have hex : ∀ i, ∃ e : Ev, i < len → ∀ j u, e.enc[j]? = some u → w.cell? (a.add (i * 4 + j)) = some u := fun i => by
      by_cases hil : i < len
      · obtain ⟨cs, hc, ht⟩ := hi i (by omega)
        obtain ⟨e, rfl⟩ := open_event hC ht
        obtain ⟨_, hcl, hat⟩ := World.cells?_some hc
        refine ⟨e, fun _ j u hj => ?_⟩
        have hj4 : j < 4 := by
          rcases Nat.lt_or_ge j 4 with h | h
          · exact h
          · rw [List.getElem?_eq_none (by simpa [Ev.enc] using h)] at hj; cases hj
        rw [← Go.Deep.add_add, hat j hj4, hj]
      · exact ⟨⟨0, 0, 0, 0⟩, fun h => absurd h hil⟩
    obtain ⟨f, hf⟩ := Classical.axiomOfChoice hex
    have hlen : ((List.range len).map f).length = len := by simp
    refine ⟨some a, cap, (List.range len).map f, by rw [hlen], ⟨some a, cap, (List.range len).map fun i => (f i).enc, rfl, by omega, by simp, fun i cs x h1 h2 => ?_, fun h0 => ?_⟩, by omega⟩
    · simp only [List.getElem?_map] at h1 h2
      cases hr : (List.range len)[i]? with
      | none => rw [hr] at h1; cases h1
      | some k =>
        rw [hr] at h1 h2
        simp at h1 h2
        subst h1 h2
        exact ⟨rfl, rfl⟩
    · rw [hlen] at h0
      have hc0 := hf 0 h0 0 _ rfl
      obtain ⟨_, _, _, _, hs⟩ := World.shape?_of_cell? hc0
      obtain ⟨b, o, sp⟩ := a
      have hsp : sp = none := by
        cases sp with
        | none => rfl
        | some q => simp [Addr.add] at hs
      subst hsp
      refine ⟨b, o, rfl, block_lt_of_cell hc0, fun i j cs u h1 h2 => ?_⟩
      simp only [List.getElem?_map] at h1
      cases hr : (List.range len)[i]? with
      | none => rw [hr] at h1; cases h1
      | some k =>
        rw [hr] at h1
        simp at h1
        subst h1
        have hk : k = i ∧ i < len := by
          rw [List.getElem?_eq_some_iff] at hr
          obtain ⟨h3, h4⟩ := hr
          simp at h3 h4
          exact ⟨h4.symm, h3⟩
        have := hf i hk.2 j u (by rw [← hk.1]; exact h2)
        rw [Addr.add_lit, ← Nat.add_assoc] at this
        exact this
end
end Go.Proofs.YtphcebgpllecjaaGreatDoor

namespace Go.Proofs.YtphcebgpllecjaaGreatDoor
open Go.Joins Go.ChangeShapes Go.WideShapes Go.ChangeAt Go.RowKit Go.Deep Go.Inq
section
variable {H : Type} {enc : TypeId × Value → H} {w : World} {base : Nat} {spare : Nat → Bool} {held : Bool}

theorem open_rows {α : Type} {size : Nat} {R : World → (Nat → Prop) → List Value → α → Prop} {te ts : TypeId} (P : α → Prop) (x0 : α) (hT : Tryz.prog.underlying ts = some (.slice te)) (hC : Tryz.prog.cellsOf te = size) (hs0 : 0 < size)
    (hop : ∀ n cs x, DataW.trod enc Tryz.prog w base spare held n te cs = some x → ∃ t, R w (Old w) cs t ∧ P t)
    {n : Nat} {v : Value} {x : DataW H × List MemPlace} (h : DataW.trod enc Tryz.prog w base spare held n ts [v] = some x) :
    ∃ (A : Option Addr) (c : Nat) (l : List α), v = .slice A l.length c ∧ SlR size R w (Old w) (.slice A l.length c) l ∧ l.length ≤ maxLen ∧ ∀ t ∈ l, P t := by
  rcases open_slice hT h with ⟨h1, _⟩ | ⟨a, len, cap, m, n', D, Pl, h1, _, hl, hm, hmm, hx, hi⟩
  · injection h1 with h1
    exact ⟨none, 0, [], h1, SlR.nil _ _ _ _ _ _, Nat.zero_le _, fun t ht => by simp at ht⟩
  · injection h1 with h1
    subst h1
    rw [hC] at hi
    have hlm : len ≤ m := by rw [hmm]; split <;> omega
    have hex : ∀ i, ∃ p : α × List Value, i < len → p.2.length = size ∧ R w (Old w) p.2 p.1 ∧ P p.1 ∧ ∀ j u, p.2[j]? = some u → w.cell? (a.add (i * size + j)) = some u := fun i => by
      by_cases hil : i < len
      · obtain ⟨cs, hc, ht⟩ := hi i (by omega)
        obtain ⟨t, hR, hP⟩ := hop _ _ _ ht
        obtain ⟨_, hcl, hat⟩ := World.cells?_some hc
        refine ⟨(t, cs), fun _ => ⟨by simpa using hcl, hR, hP, fun j u hj => ?_⟩⟩
        have hj4 : j < size := by
          rcases Nat.lt_or_ge j size with h | h
          · exact h
          · rw [List.getElem?_eq_none (by dsimp only; omega)] at hj; cases hj
        rw [← Go.Deep.add_add, hat j hj4]
        exact hj
      · exact ⟨(x0, []), fun h => absurd h hil⟩
    obtain ⟨f, hf⟩ := Classical.axiomOfChoice hex
    have hlen : ((List.range len).map fun i => (f i).1).length = len := by simp
    refine ⟨some a, cap, (List.range len).map fun i => (f i).1, by rw [hlen], ⟨some a, cap, (List.range len).map fun i => (f i).2, rfl, by omega, by simp, fun i cs x h1 h2 => ?_, fun h0 => ?_⟩, by omega, fun t ht => ?_⟩
    · simp only [List.getElem?_map] at h1 h2
      cases hr : (List.range len)[i]? with
      | none => rw [hr] at h1; cases h1
      | some k =>
        rw [hr] at h1 h2
        simp at h1 h2
        subst h1 h2
        have hk : k < len := by
          rw [List.getElem?_eq_some_iff] at hr
          obtain ⟨h3, h4⟩ := hr
          simp at h3 h4
          omega
        exact ⟨(hf k hk).1, (hf k hk).2.1⟩
    · rw [hlen] at h0
      obtain ⟨g1, _, _, g4⟩ := hf 0 h0
      have hc0 := g4 0 ((f 0).2[0]'(by omega)) (List.getElem?_eq_getElem (by omega))
      obtain ⟨_, _, _, _, hs⟩ := World.shape?_of_cell? hc0
      obtain ⟨b, o, sp⟩ := a
      have hsp : sp = none := by
        cases sp with
        | none => rfl
        | some q => simp [Addr.add] at hs
      subst hsp
      have hbl : b < w.heap.size := by have := block_lt_of_cell hc0; rwa [Addr.add_lit] at this
      refine ⟨b, o, rfl, hbl, fun i j cs u h1 h2 => ?_⟩
      simp only [List.getElem?_map] at h1
      cases hr : (List.range len)[i]? with
      | none => rw [hr] at h1; cases h1
      | some k =>
        rw [hr] at h1
        simp at h1
        subst h1
        have hk : k = i ∧ i < len := by
          rw [List.getElem?_eq_some_iff] at hr
          obtain ⟨h3, h4⟩ := hr
          simp at h3 h4
          exact ⟨h4.symm, h3⟩
        have := (hf i hk.2).2.2.2 j u (by rw [← hk.1]; exact h2)
        rw [Addr.add_lit, ← Nat.add_assoc] at this
        exact this
    · obtain ⟨k, hk, rfl⟩ := List.mem_map.1 ht
      exact (hf k (by simpa using hk)).2.2.1

theorem open_num {n : Nat} {cs : List Value} {x : DataW H × List MemPlace} (h : DataW.trod enc Tryz.prog w base spare held n 3 cs = some x) : ∃ k : Int, Go.Inq.Flat encI w (Old w) cs k ∧ True := by
  obtain ⟨k, e, _⟩ := DataW.trod_int Tryz.underlying3 h
  exact ⟨k, e, trivial⟩
theorem open_nums {n : Nat} {v : Value} {x : DataW H × List MemPlace} (h : DataW.trod enc Tryz.prog w base spare held n 35 [v] = some x) :
    ∃ (A : Option Addr) (c : Nat) (l : List Int), v = .slice A l.length c ∧ IntS w (Old w) (.slice A l.length c) l ∧ l.length ≤ maxLen := by
  obtain ⟨A, c, l, h1, h2, h3, _⟩ := open_rows (R := Go.Inq.Flat encI) (size := 1) (fun _ => True) 0 Tryz.underlying35 (by kernel_rfl) (by decide) (fun n cs x h => open_num h) h
  exact ⟨A, c, l, h1, h2, h3⟩
theorem open_take {n : Nat} {cs : List Value} {x : DataW H × List MemPlace} (hC : Tryz.prog.cellsOf 40 = 2) (h : DataW.trod enc Tryz.prog w base spare held n 40 cs = some x) : ∃ e : It, Go.Inq.Flat It.enc w (Old w) cs e ∧ True := by
  obtain ⟨y0, y1, n', _, hl, h0, h1⟩ := trod_struct2 Tryz.underlying40 h
  rw [hC] at hl
  have h31 : Tryz.prog.cellsOf 3 = 1 := by kernel_rfl
  simp only [h31] at h0 h1
  match cs, hl with
  | [a, b], _ =>
    obtain ⟨k0, e0, _⟩ := DataW.trod_int Tryz.underlying3 h0
    obtain ⟨k1, e1, _⟩ := DataW.trod_int Tryz.underlying3 h1
    simp at e0 e1
    exact ⟨⟨k0, k1⟩, by unfold Go.Inq.Flat; simp [It.enc, e0, e1], trivial⟩
theorem open_takes {n : Nat} {v : Value} {x : DataW H × List MemPlace} (h : DataW.trod enc Tryz.prog w base spare held n 36 [v] = some x) :
    ∃ (A : Option Addr) (c : Nat) (l : List It), v = .slice A l.length c ∧ ItS w (Old w) (.slice A l.length c) l ∧ l.length ≤ maxLen := by
  obtain ⟨A, c, l, h1, h2, h3, _⟩ := open_rows (R := Go.Inq.Flat It.enc) (size := 2) (fun _ => True) ⟨0, 0⟩ Tryz.underlying36 (by kernel_rfl) (by decide) (fun n cs x h => open_take (by kernel_rfl) h) h
  exact ⟨A, c, l, h1, h2, h3⟩
theorem open_txn {n : Nat} {cs : List Value} {x : DataW H × List MemPlace} (hC : Tryz.prog.cellsOf 38 = 3) (h : DataW.trod enc Tryz.prog w base spare held n 38 cs = some x) :
    ∃ t : Txn, TxnR w (Old w) cs t ∧ t.writes.length ≤ maxLen ∧ t.reads.length ≤ maxLen := by
  obtain ⟨y0, y1, y2, n', _, hl, h0, h1, h2⟩ := trod_struct3 Tryz.underlying38 h
  rw [hC] at hl
  have e1 : Tryz.prog.cellsOf 3 = 1 := by kernel_rfl
  have e2 : Tryz.prog.cellsOf 35 = 1 := by kernel_rfl
  have e3 : Tryz.prog.cellsOf 36 = 1 := by kernel_rfl
  simp only [e1, e2, e3] at h0 h1 h2
  match cs, hl with
  | [a, b, c], _ =>
    obtain ⟨k0, e0, _⟩ := DataW.trod_int Tryz.underlying3 h0
    simp at e0
    have h1' : DataW.trod enc Tryz.prog w base spare held n' 35 [b] = some y1 := by simpa using h1
    have h2' : DataW.trod enc Tryz.prog w base spare held n' 36 [c] = some y2 := by simpa using h2
    obtain ⟨A, c', l, hv, hev, hlen⟩ := open_nums h1'
    obtain ⟨A2, c2', l2, hv2, hev2, hlen2⟩ := open_takes h2'
    exact ⟨⟨k0, l, l2⟩, ⟨b, c, by rw [e0], by rw [hv]; exact hev, by rw [hv2]; exact hev2⟩, hlen, hlen2⟩
theorem open_txns {n : Nat} {v : Value} {x : DataW H × List MemPlace} (h : DataW.trod enc Tryz.prog w base spare held n 22 [v] = some x) :
    ∃ (A : Option Addr) (c : Nat) (l : List Txn), v = .slice A l.length c ∧ TxnS w (Old w) (.slice A l.length c) l ∧ l.length ≤ maxLen ∧ ∀ t ∈ l, t.writes.length ≤ maxLen ∧ t.reads.length ≤ maxLen :=
  open_rows (R := TxnR) (size := 3) (fun t => t.writes.length ≤ maxLen ∧ t.reads.length ≤ maxLen) ⟨0, [], []⟩ Tryz.underlying22 (by kernel_rfl) (by decide) (fun n cs x h => open_txn (by kernel_rfl) h) h
/-- A history. -/
theorem open_hist {n : Nat} {cs : List Value} {x : DataW H × List MemPlace} (hC : Tryz.prog.cellsOf 24 = 1) (h : DataW.trod enc Tryz.prog w base spare held n 24 cs = some x) :
    ∃ (A : Option Addr) (c : Nat) (l : List Txn), cs = [.slice A l.length c] ∧ TxnS w (Old w) (.slice A l.length c) l ∧ l.length ≤ maxLen ∧ ∀ t ∈ l, t.writes.length ≤ maxLen ∧ t.reads.length ≤ maxLen := by
  obtain ⟨y0, n', _, hl, h0⟩ := trod_struct1 Tryz.underlying24 h
  rw [hC] at hl
  have e1 : Tryz.prog.cellsOf 22 = 1 := by kernel_rfl
  simp only [e1] at h0
  match cs, hl with
  | [a], _ =>
    have h0' : DataW.trod enc Tryz.prog w base spare held n' 22 [a] = some y0 := by simpa using h0
    obtain ⟨A, c, l, hv, h1, h2, h3⟩ := open_txns h0'
    exact ⟨A, c, l, by rw [hv], h1, h2, h3⟩
end
end Go.Proofs.YtphcebgpllecjaaGreatDoor
