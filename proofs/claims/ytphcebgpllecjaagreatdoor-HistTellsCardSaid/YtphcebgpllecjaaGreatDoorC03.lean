/-
  Walks: layer 6: the small functions (compare, search, behind).
-/
import Derived.Test.YtphcebgpllecjaaGreatDoorC02
set_option linter.unusedVariables false
set_option linter.unusedSimpArgs false
namespace Go.Proofs.YtphcebgpllecjaaGreatDoor
open Go.RowKit Go.Inq
set_option maxHeartbeats 1000000
attribute [local go_sem ↓] Go.wp_at_zero Go.wp_at_succ

def cmpI (a b : Int) : Int := if a < b then -1 else if b < a then 1 else 0

theorem nan_any (a : Int) (w : World) : Calls Tryz.prog 94 #[.int .i64 a] w fun e w' => e = .returned (.bool false) ∧ w = w' := by
  go_enter Tryz.func94, Tryz.ntmps94
  go_wp2
  go_ret
  exact ⟨by simp, rfl⟩

theorem compare_any (a b : Int) (w : World) : Calls Tryz.prog 79 #[.int .i64 a, .int .i64 b] w fun e w' => e = .returned (.int .i64 (cmpI a b)) ∧ w = w' := by
  go_enter Tryz.func79, Tryz.ntmps79
  go_wp2_with (go_at_call 94; refine (nan_any _ _).mono ?_; rintro e w' ⟨rfl, rfl⟩)
  all_goals go_ret
  all_goals refine ⟨ret_int ?_, rfl⟩
  all_goals go_light
  all_goals grind [cmpI]

theorem cmpItem_any (x : It) (k : Int) (w : World) :
    Calls Tryz.prog 78 #[.agg #[.int .i64 x.a, .int .i64 x.b], .int .i64 k] w fun e w' => e = .returned (.int .i64 (cmpI x.a k)) ∧ Below w.heap.size w w' := by
  obtain ⟨a, b⟩ := x
  go_enter Tryz.func78, Tryz.ntmps78
  go_wp2_with (go_at_call 79; refine (compare_any _ _ _).mono ?_; rintro e w' ⟨rfl, rfl⟩)
  go_ret
  exact ⟨rfl, (Below.refl _ _).alloc (Nat.le_refl _) _⟩

/-- The place of a key in items by rising keys. -/
def posI (l : List It) (k : Int) : Nat := (l.takeWhile fun x => decide (x.a < k)).length
def hasI (l : List It) (k : Int) : Bool := match l[posI l k]? with | some x => x.a == k | none => false

def Rising (l : List It) : Prop := l.Pairwise fun x y => x.a < y.a

theorem posI_le (l : List It) (k : Int) : posI l k ≤ l.length := by
  unfold posI
  exact (List.takeWhile_sublist _).length_le

theorem posI_eq {l : List It} {k : Int} {i : Nat} (h : i ≤ l.length) (h1 : ∀ j (hj : j < l.length), j < i → l[j].a < k) (h2 : ∀ (hj : i < l.length), ¬ l[i].a < k) : posI l k = i := by
  induction l generalizing i with
  | nil => simp at h; simp [posI, h]
  | cons x r ih =>
    cases i with
    | zero =>
      have := h2 (by simp)
      simp at this
      simp [posI, List.takeWhile]
      have : ¬ x.a < k := by omega
      simp [this]
    | succ i =>
      have hx : x.a < k := h1 0 (by simp) (by omega)
      have := ih (i := i) (by simpa using h) (fun j hj hji => h1 (j + 1) (by simpa using hj) (by omega)) (fun hj => h2 (by simpa using hj))
      unfold posI at *
      simp [List.takeWhile, hx, this]

theorem search_any (A : Option Addr) (c : Nat) (l : List It) (k : Int) (w : World) (h : ItS w (Old w) (.slice A l.length c) l) (hr : Rising l) (hn : l.length ≤ 1000000) :
    Calls Tryz.prog 77 #[.slice A l.length c, .int .i64 k, .func (.func 78) #[] #[]] w fun e w' =>
      e = .returned (.tuple #[.int .i64 (posI l k), .bool (hasI l k)]) ∧ Below w.heap.size w w' := by
  have hmono : ∀ i j (hi : i < l.length) (hj : j < l.length), i ≤ j → l[i].a ≤ l[j].a := by
    intro i j hi hj hij
    rcases Nat.lt_or_ge i j with h1 | h1
    · have := (List.pairwise_iff_getElem.1 hr) i j hi hj h1
      omega
    · have : i = j := by omega
      subst this; omega
  go_enter Tryz.func77, Tryz.ntmps77
  go_wp2
  go_loopw [9, 10] (fun s9 s10 wr => ∃ i j : Nat, i ≤ j ∧ j ≤ l.length ∧ s9 = .int .i64 i ∧ s10 = .int .i64 j ∧ Hid (∀ m (hm : m < l.length), m < i → l[m].a < k) ∧ Hid (∀ m (hm : m < l.length), j ≤ m → ¬ l[m].a < k) ∧ Below w.heap.size w wr) (fun s9 s10 _ => (intOf s10 - intOf s9).toNat)
  case atStart => exact ⟨0, l.length, Nat.zero_le _, Nat.le_refl _, by go_num, rfl, fun m hm h0 => absurd h0 (by omega), fun m hm h0 => absurd h0 (by omega), Below.refl _ _⟩
  case round =>
    obtain ⟨i, j, hij, hj, rfl, rfl, hlo, hhi, hb⟩ := hrel
    by_cases hlt : i < j
    · have hm : (i + j) / 2 < l.length := by omega
      have hwr : ItS wr (Old wr) (.slice A l.length c) l := ItS.below h hb
      obtain ⟨b, off, rfl, hbK, c0, c1⟩ := ItS.at_ hwr hm
      have hlo2 := hide (fun n (hn : n < l.length) (h1 : n < (i + j) / 2 + 1) => hmono n ((i + j) / 2) hn hm (by omega))
      have hhi2 := hide (fun n (hn : n < l.length) (h1 : (i + j) / 2 ≤ n) => hmono ((i + j) / 2) n hm hn h1)
      generalize hx : l[(i + j) / 2] = x at *
      go_wp2_with fail
      refine (cmpItem_any x k wr).mono ?_
      rintro e w1 ⟨rfl, hb1⟩
      have hbx : Below w.heap.size w w1 := hb.trans (hb1.mono hb.size)
      by_cases hxk : x.a < k
      · have hc : cmpI x.a k = -1 := by unfold cmpI; rw [if_pos hxk]
        rw [hc]
        go_wp2
        go_roundw
        case rel => exact ⟨(i + j) / 2 + 1, j, by omega, hj, by go_num, rfl, fun n hn h1 => by have := hlo2.out n hn h1; omega, fun n hn h1 => by have := hhi.out n hn h1; omega, hbx⟩
        case measure => simp [intOf]; omega
      · have hc : Hid (0 ≤ cmpI x.a k) := by unfold Hid cmpI; rw [if_neg hxk]; split <;> omega
        generalize cmpI x.a k = y at *
        have hy : ¬ y < 0 := by have := hc.out; omega
        go_wp2
        go_roundw
        case rel => exact ⟨i, (i + j) / 2, by omega, by omega, rfl, by go_num, hlo, fun n hn h1 => by have := hhi2.out n hn h1; omega, hbx⟩
        case measure => simp [intOf]; omega
    · have : i = j := by omega
      subst this
      have hp : posI l k = i := posI_eq hj (fun m hm h1 => hlo.out m hm h1) (fun hm => hhi.out i hm (Nat.le_refl _))
      by_cases hi : i < l.length
      · have hwr : ItS wr (Old wr) (.slice A l.length c) l := ItS.below h hb
        obtain ⟨b, off, rfl, hbK, c0, c1⟩ := ItS.at_ hwr hi
        have hh : Hid (hasI l k = (l[i].a == k)) := by unfold Hid hasI; rw [hp, List.getElem?_eq_getElem hi]
        have hge : Hid (¬ l[i].a < k) := hhi.out i hi (Nat.le_refl _)
        generalize l[i] = x at *
        go_wp2_with fail
        refine (cmpItem_any x k wr).mono ?_
        rintro e w1 ⟨rfl, hb1⟩
        have hc : Hid ((cmpI x.a k == 0) = (x.a == k)) := by
          unfold Hid cmpI
          have := hge.out
          by_cases hxk : x.a = k
          · subst hxk; simp
          · have h1 : ¬ x.a < k := by omega
            have h2 : k < x.a := by omega
            simp [h1, h2, hxk]
        have hc2 : Hid (decide (cmpI x.a k = 0) = (x.a == k)) := by unfold Hid; rw [← hc.out]; rfl
        generalize cmpI x.a k = y at *
        go_wp2
        refine bodyPost_ret (v := .tuple #[.int .i64 i, .bool (hasI l k)]) (by rw [hh.out, ← hc.out]; simp [results, Tryz.results77, go_sem]; try rfl) rfl ?_
        exact ⟨by rw [hp], hb.trans (hb1.mono hb.size)⟩
      · have : i = l.length := by omega
        subst this
        have hh : hasI l k = false := by unfold hasI; rw [hp, List.getElem?_eq_none (Nat.le_refl _)]
        go_wp2
        refine bodyPost_ret (v := .tuple #[.int .i64 l.length, .bool false]) (by simp [results, Tryz.results77, go_sem]) rfl ?_
        exact ⟨rfl, hb⟩

def getI (l : List It) (k : Int) : Int := if hasI l k = true then ((l[posI l k]?).map (·.b)).getD 0 else 0

theorem hasI_at {l : List It} {k : Int} (h : hasI l k = true) : ∃ hi : posI l k < l.length, l[posI l k].a = k := by
  unfold hasI at h
  split at h
  · rename_i x hx
    rw [List.getElem?_eq_some_iff] at hx
    obtain ⟨h1, h2⟩ := hx
    exact ⟨h1, by rw [h2]; exact eq_of_beq h⟩
  · cases h

theorem get_any (gi gl gt F o : Nat) (A : Option Addr) (c : Nat) (l : List It) (k : Int) (w : World) (hi : w.cell? ⟨gi, 0, none⟩ = some (.bool (hasI l k))) (hl : w.cell? ⟨gl, 0, none⟩ = some (.pointer (some ⟨F, o, none⟩)))
    (ht : w.cell? ⟨gt, 0, none⟩ = some (.int .i64 (posI l k))) (hF : w.cell? ⟨F, o, none⟩ = some (.slice A l.length c)) (h : ItS w (Old w) (.slice A l.length c) l) (hn : l.length ≤ 1000000) :
    Calls Tryz.prog 80 #[.pointer (some ⟨gi, 0, none⟩), .pointer (some ⟨gl, 0, none⟩), .pointer (some ⟨gt, 0, none⟩)] w fun e w' => e = .returned (.tuple #[.int .i64 (getI l k), .bool (hasI l k)]) ∧ Below w.heap.size w w' := by
  by_cases hh : hasI l k = true
  · obtain ⟨hp, hk⟩ := hasI_at hh
    have hg : getI l k = l[posI l k].b := by unfold getI; rw [if_pos hh, List.getElem?_eq_getElem hp]; rfl
    obtain ⟨b, off, rfl, hbK, c0, c1⟩ := ItS.at_ h hp
    rw [hh] at hi ⊢
    rw [hg]
    clear hg hh hk
    generalize l[posI l k] = x at *
    have hz : (0 : Int) ≤ (posI l k : Int) := Int.natCast_nonneg _
    have hz2 : (posI l k : Int) < (l.length : Int) := by omega
    generalize posI l k = p at *
    go_enter Tryz.func80, Tryz.ntmps80
    go_wp2
    go_quiet (fail)
    go_wp2
    refine bodyPost_ret (v := .tuple #[.int .i64 x.b, .bool true]) (by simp [results, Tryz.results80, go_sem]) rfl ?_
    exact ⟨rfl, ⟨rfl, rfl, rfl, Nat.le_refl _, fun _ _ => rfl⟩⟩
  · have hf : hasI l k = false := by simpa using hh
    have hg : getI l k = 0 := by unfold getI; rw [if_neg hh]
    rw [hf] at hi ⊢
    rw [hg]
    go_enter Tryz.func80, Tryz.ntmps80
    go_wp2
    refine bodyPost_ret (v := .tuple #[.int .i64 0, .bool false]) (by simp [results, Tryz.results80, go_sem]) rfl ?_
    exact ⟨rfl, Below.refl _ _⟩

/-- 'behind': whether an event is a write of this key and value; the captured 'later' keeps all but its session. -/
theorem behind_any (G : Nat) (s k v : Int) (e : Ev) (w : World) (hG : Blk w G 56 #[.int .i64 2, .int .i64 s, .int .i64 k, .int .i64 v]) :
    Calls Tryz.prog 57 #[.agg #[.int .i64 e.kind, .int .i64 e.sess, .int .i64 e.key, .int .i64 e.val], .pointer (some ⟨G, 0, none⟩)] w fun x w' =>
      x = .returned (.bool (e.kind == 2 && e.key == k && e.val == v)) ∧ Blk w' G 56 #[.int .i64 2, .int .i64 e.sess, .int .i64 k, .int .i64 v] ∧ w.grownBy w' (some G) := by
  obtain ⟨ek, es, ey, ev⟩ := e
  have hlt := hG.lt
  have c0 := hG.cell 0
  have c1 := hG.cell 1
  have c2 := hG.cell 2
  have c3 := hG.cell 3
  have f1 := hG.frozen 1
  simp at c0 c1 c2 c3
  go_enter Tryz.func57, Tryz.ntmps57
  go_wp2
  all_goals go_ret
  all_goals refine ⟨ret_bool ?_, (hG.set_ 1 _).alloc _, ⟨rfl, rfl, rfl, by simp, fun b hb hbG => ?_⟩⟩
  all_goals first | (rw [Below.heap_alloc _ _ _ (by simpa using hb), Below.heap_setCell _ _ _ _ (fun e => hbG (by simp_all))]; done) | skip
  all_goals go_light
  all_goals simp_all

theorem index_any (G : Nat) (s k v : Int) (A : Option Addr) (c : Nat) (l : List Ev) (w : World) (hG : Blk w G 56 #[.int .i64 2, .int .i64 s, .int .i64 k, .int .i64 v])
    (h : EvS w (fun b => b < w.heap.size ∧ b ≠ G) (.slice A l.length c) l) (hn : l.length ≤ 1000000) :
    Calls Tryz.prog 83 #[.slice A l.length c, .func (.func 57) #[] #[.pointer (some ⟨G, 0, none⟩)]] w fun x w' =>
      ∃ r : Int, x = .returned (.int .i64 r) ∧ decide (0 ≤ r) = (l.any fun e => e.kind == 2 && e.key == k && e.val == v) ∧ w.grownBy w' (some G) := by
  go_enter Tryz.func83, Tryz.ntmps83
  go_wp2
  go_loopw [8] (fun s8 wr => ∃ i : Nat, i ≤ l.length ∧ s8 = .int .i64 i ∧ Hid ((l.any fun e => e.kind == 2 && e.key == k && e.val == v) = (l.drop i).any fun e => e.kind == 2 && e.key == k && e.val == v) ∧ w.grownBy wr (some G) ∧ ∃ s, Blk wr G 56 #[.int .i64 2, .int .i64 s, .int .i64 k, .int .i64 v]) (fun s8 _ => l.length - (intOf s8).toNat)
  case atStart => exact ⟨0, Nat.zero_le _, by go_num, rfl, World.grownBy.refl _ _, s, hG⟩
  case round =>
    obtain ⟨i, hi, rfl, hall, hg, s', hB⟩ := hrel
    by_cases hlt : i < l.length
    · have hwr : EvS wr (fun b => b < wr.heap.size ∧ b ≠ G) (.slice A l.length c) l := EvS.keep h (Agree.grown hg fun b hb => ⟨hb.1, fun e => hb.2 (by injection e)⟩) fun b hb => ⟨Nat.lt_of_lt_of_le hb.1 hg.size, hb.2⟩
      obtain ⟨b, off, rfl, hbK, c0, c1, c2, c3⟩ := EvS.at_ hwr hlt
      have hst : Hid ((l.drop i).any (fun e => e.kind == 2 && e.key == k && e.val == v) = ((l[i].kind == 2 && l[i].key == k && l[i].val == v) || (l.drop (i + 1)).any fun e => e.kind == 2 && e.key == k && e.val == v)) := by
        unfold Hid
        rw [List.drop_eq_getElem_cons hlt, List.any_cons]
      generalize l[i] = x at *
      go_wp2_with fail
      refine (behind_any G s' k v x wr hB).mono ?_
      rintro e w1 ⟨rfl, hB1, hg1⟩
      have hgx := hg.trans hg1
      cases hc : (x.kind == 2 && x.key == k && x.val == v) with
      | true =>
        have hhit : (l.any fun e => e.kind == 2 && e.key == k && e.val == v) = true := by rw [hall.out, hst.out, hc]; rfl
        go_wp2
        go_ret
        exact ⟨i, rfl, by rw [hhit]; simp, hgx⟩
      | false =>
        have hnext : Hid ((l.any fun e => e.kind == 2 && e.key == k && e.val == v) = (l.drop (i + 1)).any fun e => e.kind == 2 && e.key == k && e.val == v) := by unfold Hid; rw [hall.out, hst.out, hc]; rfl
        go_wp2
        go_roundw
        case rel => exact ⟨i + 1, by omega, by go_num, hnext, hgx, _, hB1⟩
        case measure => simp [intOf]; omega
    · have : i = l.length := by omega
      subst this
      have hno : (l.any fun e => e.kind == 2 && e.key == k && e.val == v) = false := by rw [hall.out, List.drop_length]; rfl
      go_wp2
      go_ret
      exact ⟨-1, rfl, by rw [hno]; rfl, hg⟩

theorem contains_any (G : Nat) (s k v : Int) (A : Option Addr) (c : Nat) (l : List Ev) (w : World) (hG : Blk w G 56 #[.int .i64 2, .int .i64 s, .int .i64 k, .int .i64 v])
    (h : EvS w (fun b => b < w.heap.size ∧ b ≠ G) (.slice A l.length c) l) (hn : l.length ≤ 1000000) :
    Calls Tryz.prog 58 #[.slice A l.length c, .func (.func 57) #[] #[.pointer (some ⟨G, 0, none⟩)]] w fun x w' =>
      x = .returned (.bool (l.any fun e => e.kind == 2 && e.key == k && e.val == v)) ∧ w.grownBy w' (some G) := by
  go_enter Tryz.func58, Tryz.ntmps58
  go_wp2_with fail
  refine (index_any G s k v A c l w hG h hn).mono ?_
  rintro e w1 ⟨r, rfl, hr, hg⟩
  have hr := hide hr
  go_wp2
  go_ret
  refine ⟨?_, hg⟩
  rw [← hr.out]
  rfl
end Go.Proofs.YtphcebgpllecjaaGreatDoor
