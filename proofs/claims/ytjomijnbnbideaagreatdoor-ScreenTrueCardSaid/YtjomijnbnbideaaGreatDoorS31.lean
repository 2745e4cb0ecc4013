/-
  Walks: layer 8: few transactions.
-/
import Derived.Test.YtjomijnbnbideaaGreatDoorProg
import Derived.Deep.OwnRows
import Derived.Test.YtjomijnbnbideaaGreatDoorRows
import Derived.Test.YtjomijnbnbideaaGreatDoorCards
import Derived.Test.YtjomijnbnbideaaGreatDoorTie
import Derived.ProofKit
import Derived.OpenShut
import Derived.LaidMore
import Derived.Lay
import Derived.SevenTiedAt
import Derived.Stop.Joined
import Derived.HandedShaped
import Derived.SliceStrings
import Derived.Deep.Slices
import Derived.Below
import Derived.Carry
import Derived.Lib.LaidU8
import Derived.Deep.Fields
import Derived.ChangeSame
import Derived.Lib.SmallJoins
import Derived.Deep.Strs
import Derived.StillTailTactics
import Derived.Test.YtjomijnbnbideaaGreatDoorS04
import Derived.Test.YtjomijnbnbideaaGreatDoorS02
import Derived.Test.YtjomijnbnbideaaGreatDoorS30
import Derived.Test.YtjomijnbnbideaaGreatDoorS14
import Derived.Test.YtjomijnbnbideaaGreatDoorS12
import Derived.Test.YtjomijnbnbideaaGreatDoorS08
import Derived.Test.YtjomijnbnbideaaGreatDoorS05
set_option linter.unusedVariables false
set_option linter.unusedSimpArgs false
namespace Go.Proofs.YtjomijnbnbideaaGreatDoor
open Go.RowKit Go.Inq
set_option maxHeartbeats 2000000
attribute [local go_sem ↓] Go.wp_at_zero Go.wp_at_succ

/-- At most N transactions, with few reads and writes. -/
def fewN (N : Nat) (l : List Txn) : Bool := decide (l.length ≤ N) && l.all fun t => decide (t.writes.length ≤ 20) && decide (t.reads.length ≤ 20)
def fewH (l : List Txn) : Bool := fewN 40 l
theorem fewN_len {N : Nat} {l : List Txn} (h : fewN N l = true) : l.length ≤ N := by
  unfold fewN at h
  rw [Bool.and_eq_true] at h
  simpa using h.1
theorem fewN_small {N : Nat} (hN : N ≤ 40) {l : List Txn} (h : fewN N l = true) : SmallH l := by
  unfold fewN at h
  rw [Bool.and_eq_true, List.all_eq_true] at h
  have h1 : l.length ≤ N := by simpa using h.1
  refine ⟨by omega, fun t ht => ?_⟩
  have := h.2 t ht
  simp at this
  omega
theorem fewH_small {l : List Txn} (h : fewH l = true) : SmallH l := fewN_small (Nat.le_refl _) h
theorem fewN_bad {N : Nat} {l : List Txn} {i : Nat} (hi : i < l.length) (h : 20 < l[i].writes.length ∨ 20 < l[i].reads.length) : fewN N l = false := by
  rw [← Bool.not_eq_true]
  intro g
  unfold fewN at g
  rw [Bool.and_eq_true, List.all_eq_true] at g
  have := g.2 _ (List.getElem_mem hi)
  simp at this
  omega
theorem fewN_many {N : Nat} {l : List Txn} (h : N < l.length) : fewN N l = false := by
  unfold fewN; rw [show decide (l.length ≤ N) = false by simpa using h]; rfl
theorem fewN_good {N : Nat} {l : List Txn} (h : l.length ≤ N) (hall : ∀ i (hi : i < l.length), l[i].writes.length ≤ 20 ∧ l[i].reads.length ≤ 20) : fewN N l = true := by
  unfold fewN
  rw [Bool.and_eq_true, List.all_eq_true]
  refine ⟨by simpa using h, fun t ht => ?_⟩
  obtain ⟨i, hi, rfl⟩ := List.getElem_of_mem ht
  have := hall i hi
  simp
  omega
set_option maxRecDepth 100000 in
theorem few8n_any (N : Nat) (A : Option Addr) (c : Nat) (H : List Txn) (w : World) (h : TxnS w (Old w) (.slice A H.length c) H) (hn : H.length ≤ maxLen) (hns : ∀ t ∈ H, t.writes.length ≤ maxLen ∧ t.reads.length ≤ maxLen) :
    Calls Tryz.prog 21 #[.agg #[.slice A H.length c], .int .i64 (N : Int)] w fun e w' => e = .returned (.bool (fewN N H)) ∧ Below w.heap.size w w' := by
  unfold maxLen at hn hns
  have hA : Below w.heap.size w (w.alloc (.cells #[.slice A H.length c] 24)) := (Below.refl _ _).alloc (Nat.le_refl _) _
  have kh : Blk (w.alloc (.cells #[.slice A H.length c] 24)) w.heap.size 24 #[.slice A H.length c] := Blk.new _ _ _
  have h1 := TxnS.below h hA
  have y0 := kh.cell 0
  simp only [List.getElem?_toArray, List.getElem?_cons_zero] at y0
  have hl1 : (0 : Int) ≤ (H.length : Int) := Int.natCast_nonneg _
  replace hns := hide hns
  by_cases hm : N < H.length
  · have hr := hide (fewN_many hm)
    have hmb : decide ((H.length : Int) > (N : Int)) = true := by simp; omega
    have hmb2 : decide (N < H.length) = true := by simp; omega
    clear hm
    go_enter Tryz.func21, Tryz.ntmps21
    go_wp2
    go_ret
    exact ⟨by rw [hr.out]; rfl, hA⟩
  · have hmb : decide ((H.length : Int) > (N : Int)) = false := by simp; omega
    have hmb2 : decide (N < H.length) = false := by simp; omega
    have hbad := hide (fun i => fewN_bad (N := N) (l := H) (i := i))
    have hgood := hide (fewN_good (N := N) (l := H) (by omega))
    go_enter Tryz.func21, Tryz.ntmps21
    go_wp2_with fail
    generalize w.alloc (.cells #[.slice A H.length c] 24) = W at *
    go_loop [5] (fun s5 => ∃ i : Nat, i ≤ H.length ∧ s5 = .int .i64 i ∧ Hid (∀ j (hj : j < H.length), j < i → H[j].writes.length ≤ 20 ∧ H[j].reads.length ≤ 20)) (fun s5 => H.length - (intOf s5).toNat)
    case atStart => exact ⟨0, Nat.zero_le _, by go_num, fun j hj h => absurd h (by omega)⟩
    case round =>
      obtain ⟨i, hi, rfl, hall⟩ := hrel
      have hi1 : (0 : Int) ≤ (i : Int) := Int.natCast_nonneg _
      by_cases hlt : i < H.length
      · have hi2 : (i : Int) < (H.length : Int) := by omega
        obtain ⟨b, off, Aw, cw, Ar, cr, rfl, hbK, d0, d1, d2, hws, hrs⟩ := TxnS.at_ h1 hlt
        have hb := hide (hbad.out i hlt)
        have hsm := hns.out _ (List.getElem_mem hlt)
        have hst : Hid (H[i].writes.length ≤ 20 ∧ H[i].reads.length ≤ 20 → ∀ j (hj : j < H.length), j < i + 1 → H[j].writes.length ≤ 20 ∧ H[j].reads.length ≤ 20) := fun g j hj hji => by
          by_cases e : j = i
          · subst e; exact g
          · exact hall.out j hj (by omega)
        clear hall hws hrs
        generalize H[i] = t at *
        obtain ⟨ts, ws, rs⟩ := t
        dsimp only at *
        by_cases g1 : 20 < ws.length
        · have g1b : decide ((ws.length : Int) > 20) = true := by simp; omega
          have hr := hide (hb.out (.inl g1))
          clear g1 hb hst
          go_wp2
          go_ret
          exact ⟨by rw [hr.out]; rfl, hA⟩
        · have g1b : decide ((ws.length : Int) > 20) = false := by simp; omega
          by_cases g2 : 20 < rs.length
          · have g2b : decide ((rs.length : Int) > 20) = true := by simp; omega
            have hr := hide (hb.out (.inr g2))
            clear g2 hb hst
            go_wp2
            go_ret
            exact ⟨by rw [hr.out]; rfl, hA⟩
          · have g2b : decide ((rs.length : Int) > 20) = false := by simp; omega
            have hr := hide (hst.out ⟨by omega, by omega⟩)
            clear hb hst
            go_wp2
            go_round
            case rel => exact ⟨i + 1, by omega, by go_num, hr⟩
            case measure => simp [intOf]; omega
      · have hr := hide (hgood.out fun j hj => hall.out j hj (by omega))
        go_wp2
        go_ret
        exact ⟨by rw [hr.out]; rfl, hA⟩
theorem few8_any (A : Option Addr) (c : Nat) (H : List Txn) (w : World) (h : TxnS w (Old w) (.slice A H.length c) H) (hn : H.length ≤ maxLen) (hns : ∀ t ∈ H, t.writes.length ≤ maxLen ∧ t.reads.length ≤ maxLen) :
    Calls Tryz.prog 21 #[.agg #[.slice A H.length c], .int .i64 40] w fun e w' => e = .returned (.bool (fewH H)) ∧ Below w.heap.size w w' := few8n_any 40 A c H w h hn hns
end Go.Proofs.YtjomijnbnbideaaGreatDoor

namespace Go.Proofs.YtjomijnbnbideaaGreatDoor
open Go.RowKit Go.Inq
set_option maxHeartbeats 8000000
attribute [local go_sem ↓] Go.wp_at_zero Go.wp_at_succ

/-- What screen.Step says of any history, at any level. -/
theorem step28_any (A : Option Addr) (c : Nat) (H : List Txn) (level : Int) (w : World) (h : TxnS w (Old w) (.slice A H.length c) H) (hn : SmallH H) (hTB : TabB w) :
    Calls Tryz.prog 24 #[.agg #[.slice A H.length c], .int .i64 level] w (ScrOut w (scrH H level)) := by
  cases hb : rightC H [] && (decide (level = 0) || decide (level = 1)) with
  | false => exact step28_bad A c H level w h hn hb
  | true =>
    rw [Bool.and_eq_true, Bool.or_eq_true, decide_eq_true_eq, decide_eq_true_eq] at hb
    by_cases hf : findL H.length (fullE H level []) = []
    · by_cases hp : pairsL H = []
      · obtain ⟨O, hO⟩ := Option.isSome_iff_exists.1 (show (orderT H.length (fullE H level [])).isSome = true by rw [orderT_cyc, findL_nil.1 hf]; rfl)
        exact step28_yes A c H level w h hn hb.1 hb.2 hf hp O hO hTB
      · exact step28_stuck A c H level w h hn hb.1 hb.2 hf hp hTB
    · exact step28_no A c H level w h hn hb.1 hb.2 hf hTB
theorem OwnX.sl {w : World} {base : Nat} {v : Value} {l : List (Cho × Option Nat)} (h : OwnX w base v l) {K : Nat → Prop} (hK : ∀ g, base ≤ g → g < w.heap.size → K g) : SlR 7 (Flat encX) w K v l := SlR.of_flat h rfl (fun _ => rfl) hK
theorem OwnX.at_ {w : World} {base : Nat} {A : Option Addr} {n c : Nat} {l : List (Cho × Option Nat)} (h : OwnX w base (.slice A n c) l) {i : Nat} (hi : i < l.length) :
    ∃ b off, A = some ⟨b, off, none⟩ ∧ w.cell? ⟨b, off + i * 7, none⟩ = some (.int .i64 l[i].1.key) ∧ w.cell? ⟨b, off + i * 7 + 1, none⟩ = some (.int .i64 l[i].1.a) ∧ w.cell? ⟨b, off + i * 7 + 2, none⟩ = some (.int .i64 l[i].1.b) ∧
      w.cell? ⟨b, off + i * 7 + 3, none⟩ = some (.int .i64 (mkF l[i].1 l[i].2).kind) ∧ w.cell? ⟨b, off + i * 7 + 4, none⟩ = some (.int .i64 (mkF l[i].1 l[i].2).i) ∧ w.cell? ⟨b, off + i * 7 + 5, none⟩ = some (.int .i64 0) ∧ w.cell? ⟨b, off + i * 7 + 6, none⟩ = some (.slice none 0 0) := by
  obtain ⟨b, off, cs, hA, -, _, hR, hc⟩ := SlR.at_ (h.sl (K := fun _ => True) fun _ _ _ => trivial) hi
  unfold Flat at hR
  subst hR
  exact ⟨b, off, hA, hc 0 _ rfl, hc 1 _ rfl, hc 2 _ rfl, hc 3 _ rfl, hc 4 _ rfl, hc 5 _ rfl, hc 6 _ rfl⟩
/-- What a strategy said, as it lies in memory. -/
def ScrV (w : World) (base : Nat) (v : Value) (r : Scr) : Prop := ∃ vo vt vf, v = .agg #[.int .i64 r.said, vo, vt, vf] ∧ OwnI w base vo (intsN r.order) ∧ TreeX w base vt r.tree ∧ OwnX w base vf r.facts
theorem TreeX.below {w w' : World} {base : Nat} {v : Value} {o : Option (List Nat)} (h : TreeX w base v o) (hb : Below w.heap.size w w') : TreeX w' base v o := by
  cases o with
  | none => exact h
  | some l =>
    obtain ⟨g, vc, h1, h2, h3, h4⟩ := h
    exact ⟨g, vc, h1, h2, h3.below hb h3.lt, own_below h4 hb (Nat.le_refl _)⟩
theorem TreeX.type {w : World} {base : Nat} {v : Value} {o : Option (List Nat)} {g i : Nat} {cs : Array Value} {u : Value} (h : TreeX w base v o) (hk : Blk w g 35 cs) : TreeX (w.setCell ⟨g, i, none⟩ u) base v o := by
  cases o with
  | none => exact h
  | some l =>
    obtain ⟨g2, vc, h1, h2, h3, h4⟩ := h
    exact ⟨g2, vc, h1, h2, h3.far (p := ⟨g, i, none⟩) (blk_type h3 hk (by decide)) _, h4.kept (grown_set g i u) (own_type h4 hk (by decide))⟩
theorem ScrV.below {w w' : World} {base : Nat} {v : Value} {r : Scr} (h : ScrV w base v r) (hb : Below w.heap.size w w') : ScrV w' base v r := by
  obtain ⟨vo, vt, vf, h1, h2, h3, h4⟩ := h
  exact ⟨vo, vt, vf, h1, own_below h2 hb (Nat.le_refl _), h3.below hb, own_below h4 hb (Nat.le_refl _)⟩
theorem ScrV.type {w : World} {base : Nat} {v : Value} {r : Scr} {g i : Nat} {cs : Array Value} {u : Value} (h : ScrV w base v r) (hk : Blk w g 35 cs) : ScrV (w.setCell ⟨g, i, none⟩ u) base v r := by
  obtain ⟨vo, vt, vf, h1, h2, h3, h4⟩ := h
  exact ⟨vo, vt, vf, h1, h2.kept (grown_set g i u) (own_type h2 hk (by decide)), h3.type hk, h4.kept (grown_set g i u) (own_type h4 hk (by decide))⟩
/-- A variable of a law's own that holds what a strategy said. -/
def ScrB (w : World) (base g : Nat) (r : Scr) : Prop := ∃ vo vt vf, Blk w g 35 #[.int .i64 r.said, vo, vt, vf] ∧ OwnI w base vo (intsN r.order) ∧ TreeX w base vt r.tree ∧ OwnX w base vf r.facts
theorem ScrB.below {w w' : World} {base g : Nat} {r : Scr} (h : ScrB w base g r) (hb : Below w.heap.size w w') : ScrB w' base g r := by
  obtain ⟨vo, vt, vf, h1, h2, h3, h4⟩ := h
  exact ⟨vo, vt, vf, h1.below hb h1.lt, own_below h2 hb (Nat.le_refl _), h3.below hb, own_below h4 hb (Nat.le_refl _)⟩
theorem ScrB.lt {w : World} {base g : Nat} {r : Scr} (h : ScrB w base g r) : g < w.heap.size := by obtain ⟨vo, vt, vf, h1, -⟩ := h; exact h1.lt
theorem TxnS.two {W : World} {K : Nat → Prop} {g : Nat} {t0 t1 : Txn} {vw0 vr0 vw1 vr1 : Value} (h : Blk W g 101 #[.int .i64 t0.sess, vw0, vr0, .int .i64 t1.sess, vw1, vr1]) (h0 : IntS W K vw0 t0.writes) (h1 : ItS W K vr0 t0.reads) (h2 : IntS W K vw1 t1.writes) (h3 : ItS W K vr1 t1.reads) (hK : K g) :
    TxnS W K (.slice (some ⟨g, 0, none⟩) 2 2) [t0, t1] :=
  slr_blk (l := [t0, t1]) [[.int .i64 t0.sess, vw0, vr0], [.int .i64 t1.sess, vw1, vr1]] h rfl (fun i cs x q1 q2 => by
    match i with
    | 0 => simp at q1 q2; subst q1 q2; exact ⟨rfl, _, _, rfl, h0, h1⟩
    | 1 => simp at q1 q2; subst q1 q2; exact ⟨rfl, _, _, rfl, h2, h3⟩
    | i + 2 => simp at q1) hK (by simp)
def exA : List Txn := [⟨0, [2], []⟩, ⟨0, [2], []⟩]
def exB : List Txn := [⟨0, [], []⟩]
def exC : List Txn := [⟨0, [], [⟨1, 1⟩]⟩, ⟨0, [1], []⟩]
theorem exA_pairs : pairsL exA = [⟨2, 0, 1⟩] := by
  unfold pairsL
  rw [keysL_16 (by decide)]
  kernel_rfl
theorem ex28_a : scrH exA 0 = ⟨3, [], none, [(⟨2, 0, 1⟩, none)]⟩ := by
  unfold scrH
  rw [exA_pairs]
  kernel_rfl
theorem ex28_b : scrH exB 1 = ⟨1, [0], none, []⟩ := by kernel_rfl
theorem ex28_c : scrH exC 1 = ⟨2, [], some [0, 1], []⟩ := by kernel_rfl
def treeN : Option (List Nat) → Nat
  | none => 0
  | some _ => 1
theorem TreeX.form {w : World} {base : Nat} {v : Value} {o : Option (List Nat)} (h : TreeX w base v o) : ∃ A c, v = .slice A (treeN o) c := by
  cases o with
  | none => exact ⟨_, _, h⟩
  | some l => obtain ⟨g, vc, q1, q2, -⟩ := h; exact ⟨_, _, q2⟩
theorem ScrOut.v {w W' : World} {r : Scr} {e : Ending} (h : ScrOut w r e W') : ∃ Ao no co At nt ct Af nf cf, no = r.order.length ∧ nt = treeN r.tree ∧ nf = r.facts.length ∧ e = .returned (.agg #[.int .i64 r.said, .slice Ao no co, .slice At nt ct, .slice Af nf cf]) ∧ ScrV W' 0 (.agg #[.int .i64 r.said, .slice Ao no co, .slice At nt ct, .slice Af nf cf]) r ∧ Below w.heap.size w W' := by
  obtain ⟨vo, vt, vf, h1, h2, h3, h4, h5⟩ := h
  obtain ⟨Ao, co, rfl⟩ := own_slice h2
  obtain ⟨At, ct, rfl⟩ := h3.form
  obtain ⟨Af, cf, rfl⟩ := own_slice h4
  rw [intsN_len] at h1
  refine ⟨Ao, _, co, At, _, ct, Af, _, cf, rfl, rfl, rfl, h1, ⟨_, _, _, rfl, ?_, ?_, own_base h4 (Nat.zero_le _)⟩, h5⟩
  · rw [← intsN_len]; exact own_base h2 (Nat.zero_le _)
  · cases hr : r.tree with
    | none => rw [hr] at h3; exact h3
    | some l =>
      rw [hr] at h3
      obtain ⟨g, vc, q1, q2, q3, q4⟩ := h3
      exact ⟨g, vc, Nat.zero_le _, q2, q3, own_base q4 (Nat.zero_le _)⟩
/-- A variable that was made and set. -/
theorem ScrB.made {w : World} {r : Scr} {vo vt vf : Value} (h : ScrV w 0 (.agg #[.int .i64 r.said, vo, vt, vf]) r) :
    ∃ X, w.alloc (.cells #[.int .i64 r.said, vo, vt, vf] 35) = X ∧ ScrB X 0 w.heap.size r ∧ Below w.heap.size w X := by
  have hb := (Below.refl w.heap.size w).alloc (Nat.le_refl _) (.cells #[.int .i64 r.said, vo, vt, vf] 35)
  obtain ⟨vo', vt', vf', h1, h2, h3, h4⟩ := h.below hb
  simp only [Value.agg.injEq, Array.mk.injEq, List.cons.injEq, and_true, true_and] at h1
  obtain ⟨rfl, rfl, rfl⟩ := h1
  exact ⟨_, rfl, ⟨_, _, _, Blk.new _ _ _, h2, h3, h4⟩, hb⟩
set_option maxRecDepth 100000 in
theorem awake28_any (w : World) (hTB : TabB w) : Calls Tryz.prog 20 #[] w fun e w' => e = .returned (.bool true) ∧ Below w.heap.size w w' := by
  have hE1 := hide ex28_a
  have hE2 := hide ex28_b
  have hE3 := hide ex28_c
  go_enter Tryz.func20, Tryz.ntmps20
  go_wp2_with fail
  obtain ⟨W1, hW1⟩ : ∃ W1, w.alloc (.cells #[.int .i64 2] 3) = W1 := ⟨_, rfl⟩
  obtain ⟨W2, hW2⟩ : ∃ W2, W1.alloc (.cells #[.int .i64 2] 3) = W2 := ⟨_, rfl⟩
  have s1 := size_allocEq hW1
  have s2 := size_allocEq hW2
  rw [hW1, hW2]
  obtain ⟨W3, hW3⟩ : ∃ W3, W2.alloc (.cells #[.int .i64 0, .slice (some ⟨w.heap.size, 0, none⟩) 1 1, .slice none 0 0, .int .i64 0, .slice (some ⟨w.heap.size + 1, 0, none⟩) 1 1, .slice none 0 0] 101) = W3 := ⟨_, rfl⟩
  have s3 := size_allocEq hW3
  have k1 := ((Blk.newEq hW1).allocEq hW2).allocEq hW3
  have k2 := (Blk.newEq hW2).allocEq hW3
  have k3 := Blk.newEq hW3
  have b3 := below_allocEq (below_allocEq (below_allocEq (Below.refl w.heap.size w) hW1 (Nat.le_refl _)) hW2 (by omega)) hW3 (by omega)
  rw [hW3]
  clear hW1 hW2 hW3
  have hA : TxnS W3 (Old W3) (.slice (some ⟨w.heap.size + 1 + 1, 0, none⟩) 2 2) exA := by
    rw [show W2.heap.size = w.heap.size + 1 + 1 by omega] at k3
    rw [show W1.heap.size = w.heap.size + 1 by omega] at k2
    exact TxnS.two (t0 := ⟨0, [2], []⟩) (t1 := ⟨0, [2], []⟩) k3 (IntS.of_blk (l := [2]) k1 k1.lt) (SlR.nil _ _ _ _ _ _) (IntS.of_blk (l := [2]) k2 k2.lt) (SlR.nil _ _ _ _ _ _) k3.lt
  have hc := step28_any (some ⟨w.heap.size + 1 + 1, 0, none⟩) 2 exA 0 W3 hA ⟨by decide, by decide⟩ (hTB.below b3)
  rw [hE1.out] at hc
  refine Calls.mono (by exact hc) ?_
  clear hc
  rintro e W4 h4
  obtain ⟨Ao, no, co, At, nt, ct, Af, nf, cf, hno, hnt, hnf, rfl, v4, b4⟩ := (h4).v
  simp only [List.length_nil, List.length_cons, Nat.zero_add, treeN] at hno hnt hnf
  subst hno hnt hnf
  clear h4
  obtain ⟨W5, hX, q, bX⟩ := ScrB.made v4
  replace q := hide q
  replace hX := hide hX
  clear v4
  dsimp only at hX ⊢
  go_upto_region 2 with fail
  rw [hX.out]
  have b5 := b3.trans (b4.mono b3.size)
  replace b5 := b5.trans (bX.mono b5.size)
  have q5 := q
  clear hX bX b4 k1 k2 k3 hA b3 q
  go_wp2_with fail
  obtain ⟨W6, hW6⟩ : ∃ W6, W5.alloc (.cells #[.int .i64 0, .slice none 0 0, .slice none 0 0] 101) = W6 := ⟨_, rfl⟩
  rw [hW6]
  have k6 := Blk.newEq hW6
  have b6 := below_allocEq (Below.refl W5.heap.size W5) hW6 (Nat.le_refl _)
  have hB : TxnS W6 (Old W6) (.slice (some ⟨W5.heap.size, 0, none⟩) 1 1) exB := SlR.one k6 rfl ⟨_, _, rfl, SlR.nil _ _ _ _ _ _, SlR.nil _ _ _ _ _ _⟩ k6.lt
  have hc := step28_any (some ⟨W5.heap.size, 0, none⟩) 1 exB 1 W6 hB ⟨by decide, by decide⟩ (hTB.below (b5.trans (b6.mono b5.size)))
  rw [hE2.out] at hc
  refine Calls.mono (by exact hc) ?_
  clear hc
  rintro e W7 h7
  obtain ⟨Ao, no, co, At, nt, ct, Af, nf, cf, hno, hnt, hnf, rfl, v7, b7⟩ := (h7).v
  simp only [List.length_nil, List.length_cons, Nat.zero_add, treeN] at hno hnt hnf
  subst hno hnt hnf
  clear h7
  obtain ⟨W8, hX, q, bX⟩ := ScrB.made v7
  replace q := hide q
  replace hX := hide hX
  clear v7
  dsimp only at hX ⊢
  go_upto_region 3 with fail
  rw [hX.out]
  have b8 := (b6.trans (b7.mono b6.size)).trans (bX.mono (by have := b6.size; have := b7.size; omega))
  have q8 := q
  replace q5 := hide (q5.out.below b8)
  replace b5 := b5.trans (b8.mono b5.size)
  clear hX bX b7 b8 k6 hB b6 hW6 q
  go_wp2_with fail
  obtain ⟨X1, hX1⟩ : ∃ X1, W8.alloc (.cells #[.int .i64 1, .int .i64 1] 112) = X1 := ⟨_, rfl⟩
  obtain ⟨X2, hX2⟩ : ∃ X2, X1.alloc (.cells #[.int .i64 1] 3) = X2 := ⟨_, rfl⟩
  have s1 := size_allocEq hX1
  have s2 := size_allocEq hX2
  rw [hX1, hX2]
  obtain ⟨X3, hX3⟩ : ∃ X3, X2.alloc (.cells #[.int .i64 0, .slice none 0 0, .slice (some ⟨W8.heap.size, 0, none⟩) 1 1, .int .i64 0, .slice (some ⟨W8.heap.size + 1, 0, none⟩) 1 1, .slice none 0 0] 101) = X3 := ⟨_, rfl⟩
  have s3 := size_allocEq hX3
  have k1 := ((Blk.newEq hX1).allocEq hX2).allocEq hX3
  have k2 := (Blk.newEq hX2).allocEq hX3
  have k3 := Blk.newEq hX3
  have b9 := below_allocEq (below_allocEq (below_allocEq (Below.refl W8.heap.size W8) hX1 (Nat.le_refl _)) hX2 (by omega)) hX3 (by omega)
  rw [hX3]
  clear hX1 hX2 hX3
  have hC : TxnS X3 (Old X3) (.slice (some ⟨W8.heap.size + 1 + 1, 0, none⟩) 2 2) exC := by
    rw [show X2.heap.size = W8.heap.size + 1 + 1 by omega] at k3
    rw [show X1.heap.size = W8.heap.size + 1 by omega] at k2
    exact TxnS.two (t0 := ⟨0, [], [⟨1, 1⟩]⟩) (t1 := ⟨0, [1], []⟩) k3 (SlR.nil _ _ _ _ _ _) (SlR.one k1 rfl rfl k1.lt) (IntS.of_blk (l := [1]) k2 k2.lt) (SlR.nil _ _ _ _ _ _) k3.lt
  have hc := step28_any (some ⟨W8.heap.size + 1 + 1, 0, none⟩) 2 exC 1 X3 hC ⟨by decide, by decide⟩ (hTB.below (b5.trans (b9.mono b5.size)))
  rw [hE3.out] at hc
  refine Calls.mono (by exact hc) ?_
  clear hc
  rintro e X4 h10
  obtain ⟨Ao, no, co, At, nt, ct, Af, nf, cf, hno, hnt, hnf, rfl, v10, b10⟩ := (h10).v
  simp only [List.length_nil, List.length_cons, Nat.zero_add, treeN] at hno hnt hnf
  subst hno hnt hnf
  clear h10
  obtain ⟨X5, hX, q, bX⟩ := ScrB.made v10
  replace q := hide q
  replace hX := hide hX
  clear v10
  dsimp only at hX ⊢
  go_upto_region 4 with fail
  rw [hX.out]
  have b11 := (b9.trans (b10.mono b9.size)).trans (bX.mono (by have := b9.size; have := b10.size; omega))
  replace q5 := q5.out.below b11
  replace q8 := q8.out.below b11
  replace b5 := b5.trans (b11.mono b5.size)
  replace q := q.out
  clear hX bX b10 b11 k1 k2 k3 hC b9 hE1 hE2 hE3
  generalize W4.heap.size = g1 at *
  generalize W7.heap.size = g2 at *
  generalize X4.heap.size = g3 at *
  obtain ⟨u1, u2, u3, k1, o1, t1, f1⟩ := q5
  obtain ⟨y1, y2, y3, k2, o2, t2, f2⟩ := q8
  obtain ⟨z1, z2, z3, k3, o3, t3, f3⟩ := q
  obtain ⟨A1, c1, rfl⟩ := own_slice f1
  obtain ⟨A2, c2, rfl⟩ := own_slice o2
  obtain ⟨p3, vc, -, rfl, kn, on⟩ := t3
  obtain ⟨A4, c4, rfl⟩ := own_slice on
  obtain ⟨bf, off, rfl, e0, e1, e2, e3, -⟩ := f1.at_ (i := 0) (by simp)
  have a0 := k1.cell 0
  have a3 := k1.cell 3
  have d0 := k2.cell 0
  have d1 := k2.cell 1
  have j0 := k3.cell 0
  have j2 := k3.cell 2
  have n3 := kn.cell 3
  simp only [List.getElem?_toArray, List.getElem?_cons_zero, List.getElem?_cons_succ, List.getElem_cons_zero, Nat.zero_mul, Nat.add_zero, List.length_cons, List.length_nil, Nat.zero_add, intsN_len, mkF] at a0 a3 d0 d1 j0 j2 n3 e0 e1 e2 e3
  clear k1 k2 k3 o1 o2 o3 t1 t2 f1 f2 f3 kn on
  go_wp2
  go_ret
  exact ⟨rfl, b5⟩
end Go.Proofs.YtjomijnbnbideaaGreatDoor

namespace Go.Inq
open Go Go.RowKit

/-- Blocks from b on whose elements are of type t may be set; all else stays. -/
def VarT (t : TypeId) (n : Nat) (b : Nat) (W W' : World) : Prop :=
  (W'.os = W.os ∧ W'.tape = W.tape ∧ W'.output = W.output ∧ W.heap.size ≤ W'.heap.size) ∧ ∀ k, k < W.heap.size → W'.heap[k]? = W.heap[k]? ∨ (b ≤ k ∧ ∃ cs cs', W.heap[k]? = some (.cells cs t (0, 0)) ∧ W'.heap[k]? = some (.cells cs' t (0, 0)) ∧ cs'.size = n)
section
variable {t : TypeId} {n b : Nat} {W W' : World}
theorem VarT.of_below (h : Below W.heap.size W W') : VarT t n b W W' := ⟨⟨h.os, h.tape, h.output, h.size⟩, fun k hk => .inl (h.block k hk)⟩
theorem VarT.blk {g : Nat} {t' : TypeId} {cs : Array Value} (h : VarT t n b W W') (hk : Blk W g t' cs) (ht : t' ≠ t) : Blk W' g t' cs := by
  rcases h.2 g hk.lt with e | ⟨_, cs1, _, e, _⟩
  · exact e.trans hk
  · rw [show W.heap[g]? = _ from hk] at e
    injection e with e
    injection e with _ e
    exact absurd e ht
/-- One store into such a block. -/
theorem VarT.set_ {g : Nat} {cs : Array Value} (hk : Blk W g t cs) (hg : b ≤ g) (hb : Below W.heap.size W' W' ) {cs' : Array Value} (hk' : Blk W' g t cs') (hs : cs'.size = n) (h0 : W'.os = W.os ∧ W'.tape = W.tape ∧ W'.output = W.output ∧ W.heap.size ≤ W'.heap.size) (ho : ∀ k, k ≠ g → W'.heap[k]? = W.heap[k]?) : VarT t n b W W' :=
  ⟨h0, fun k _ => by
    by_cases e : k = g
    · subst e
      exact .inr ⟨hg, cs, cs', hk, hk', hs⟩
    · exact .inl (ho k e)⟩
end
/-- A variable of four cells. -/
def Var4 (t : TypeId) (b : Nat) (v : Value) (W : World) : Prop := ∃ g, b ≤ g ∧ v = .pointer (some ⟨g, 0, none⟩) ∧ ∃ x y z u, Blk W g t #[x, y, z, u]
theorem Var4.var {t : TypeId} {b b' : Nat} {v : Value} {W W' : World} (h : Var4 t b v W) (hs : VarT t 4 b' W W') : Var4 t b v W' := by
  obtain ⟨g, h1, h2, x, y, z, u, h3⟩ := h
  rcases hs.2 g h3.lt with e | ⟨_, cs, cs', _, e2, e3⟩
  · exact ⟨g, h1, h2, x, y, z, u, e.trans h3⟩
  · refine ⟨g, h1, h2, cs'[0]'(by omega), cs'[1]'(by omega), cs'[2]'(by omega), cs'[3]'(by omega), ?_⟩
    have : cs' = #[cs'[0]'(by omega), cs'[1]'(by omega), cs'[2]'(by omega), cs'[3]'(by omega)] := by
      refine Array.ext (by simp [e3]) fun i h1 h2 => ?_
      simp at h2
      match i, h2 with
      | 0, _ => rfl
      | 1, _ => rfl
      | 2, _ => rfl
      | 3, _ => rfl
    unfold Blk
    rw [← this]
    exact e2
end Go.Inq

namespace Go.Proofs.YtjomijnbnbideaaGreatDoor
open Go.RowKit Go.Inq
set_option maxHeartbeats 1000000
attribute [local go_sem ↓] Go.wp_at_zero Go.wp_at_succ

theorem infoS30 : (Tryz.prog.info? 27).map (fun i => (i.zero, i.size, i.bytes)) = some (some (.slice none 0 0), 1, 24) := by kernel_rfl
theorem sizeI30 : (Tryz.prog.info? 3).map (·.size) = some 1 := by kernel_rfl
def intB (l : List Int) : Array Value := (l.map (Value.int .i64)).toArray
/-- A row of numbers that is being made: its block, its length. -/
def MkV (e : TypeId) (base n : Nat) (v : Value) (W : World) : Prop := ∃ g, base ≤ g ∧ v = .slice (some ⟨g, 0, none⟩) n n ∧ ∃ cs, Blk W g e cs ∧ cs.size = n
def CloneW (s : Wd) (Ap : Option Addr) (cp : Nat) (Al : Option Addr) (cl : Nat) (base : Nat) : Nat → (Nat → Value) → World → Prop
  | 0, vs, _ => vs 0 = .pointer (some ⟨base, 0, none⟩)
  | 1, vs, _ => vs 1 = .int .i64 s.width
  | 2, vs, _ => vs 2 = .pointer (some ⟨base, 1, none⟩)
  | 3, vs, _ => vs 3 = .bool s.cut
  | 4, vs, _ => vs 4 = .pointer (some ⟨base, 2, none⟩)
  | 5, vs, _ => vs 5 = .slice Ap s.path.length cp
  | 6, vs, _ => vs 6 = .int .i64 (s.path.length : Nat)
  | 7, vs, W => MkV 3 (base + 2) s.path.length (vs 7) W
  | 8, vs, _ => vs 8 = .pointer (some ⟨base, 3, none⟩)
  | 9, vs, _ => vs 9 = .slice Al s.left.length cl
  | 10, vs, _ => vs 10 = .int .i64 (s.left.length : Nat)
  | 11, vs, W => MkV 27 (base + 2) s.left.length (vs 11) W
  | 12, vs, _ => ∃ g7 g11, vs 12 = .agg #[.int .i64 s.width, .bool s.cut, .slice (some ⟨g7, 0, none⟩) s.path.length s.path.length, .slice (some ⟨g11, 0, none⟩) s.left.length s.left.length] ∧ vs 7 = .slice (some ⟨g7, 0, none⟩) s.path.length s.path.length ∧ vs 11 = .slice (some ⟨g11, 0, none⟩) s.left.length s.left.length
  | 13, vs, W => Var4 30 (base + 2) (vs 13) W
  | 14, vs, W => ∃ g x y z u, vs 13 = .pointer (some ⟨g, 0, none⟩) ∧ base + 2 ≤ g ∧ vs 12 = .agg #[x, y, z, u] ∧ Blk W g 30 #[x, y, z, u]
  | _, _, _ => True
def cloneD : Nat → List Nat
  | 1 => [0]
  | 3 => [2]
  | 5 => [4]
  | 6 => [5]
  | 7 => [6]
  | 9 => [8]
  | 10 => [9]
  | 11 => [10]
  | 12 => [1, 3, 7, 11]
  | 14 => [13, 12]
  | _ => []
theorem clone_cg {s : Wd} {Ap : Option Addr} {cp : Nat} {Al : Option Addr} {cl : Nat} {base : Nat} : ∀ j (vs vs' : Nat → Value) w, (∀ k, k = j ∨ k ∈ cloneD j → vs k = vs' k) → CloneW s Ap cp Al cl base j vs w → CloneW s Ap cp Al cl base j vs' w := by
  intro j vs vs' w hk h
  match j, h with
  | 0, h | 1, h | 2, h | 3, h | 4, h | 5, h | 6, h | 7, h | 8, h | 9, h | 10, h | 11, h | 13, h =>
    simp only [CloneW] at h ⊢
    rw [← hk _ (.inl rfl)]
    exact h
  | 12, h =>
    simp only [CloneW] at h ⊢
    rw [← hk 12 (.inl rfl), ← hk 7 (.inr (by simp [cloneD])), ← hk 11 (.inr (by simp [cloneD]))]
    exact h
  | 14, h =>
    simp only [CloneW] at h ⊢
    rw [← hk 13 (.inr (by simp [cloneD])), ← hk 12 (.inr (by simp [cloneD]))]
    exact h
  | n + 15, _ => trivial
def CloneSt (base : Nat) (i : Nat) (W W' : World) : Prop := if i = 14 then VarT 30 4 (base + 2) W W' else Below W.heap.size W W'
theorem CloneSt.var {base i : Nat} {W W' : World} (h : CloneSt base i W W') : VarT 30 4 (base + 2) W W' := by
  unfold CloneSt at h
  split at h
  · exact h
  · exact VarT.of_below h
theorem MkV.var {e : TypeId} {base n b : Nat} {v : Value} {W W' : World} (h : MkV e base n v W) (hs : VarT 30 4 b W W') (he : e ≠ 30) : MkV e base n v W' := by
  obtain ⟨g, h1, h2, cs, h3, h4⟩ := h
  exact ⟨g, h1, h2, cs, hs.blk h3 he, h4⟩
theorem clone_keep {s : Wd} {Ap : Option Addr} {cp : Nat} {Al : Option Addr} {cl : Nat} {base : Nat} : ∀ i j (vs : Nat → Value) w w', j ≠ i → j ∉ (fun _ => [] : Nat → List Nat) i → CloneW s Ap cp Al cl base j vs w → CloneSt base i w w' → CloneW s Ap cp Al cl base j vs w' := by
  intro i j vs w w' hne _ h hs
  have hv := hs.var
  match j, h with
  | 0, h | 1, h | 2, h | 3, h | 4, h | 5, h | 6, h | 8, h | 9, h | 10, h | 12, h => exact h
  | 7, h | 11, h =>
    simp only [CloneW] at h ⊢
    exact h.var hv (by decide)
  | 13, h =>
    simp only [CloneW] at h ⊢
    exact Var4.var h hv
  | 14, h =>
    unfold CloneSt at hs
    rw [if_neg (fun e => hne e.symm)] at hs
    simp only [CloneW] at h ⊢
    obtain ⟨g, x, y, z, u, h1, h2, h3, h4⟩ := h
    exact ⟨g, x, y, z, u, h1, h2, h3, h4.below hs h4.lt⟩
  | n + 15, _ => trivial
theorem cloneD_end : ∀ i, 15 ≤ i → cloneD i = [] := by
  intro i hi
  match i, hi with
  | n + 15, _ => rfl
/-- What a copy is. -/
def CloneOut (w : World) (s : Wd) (e : Ending) (w' : World) : Prop :=
  ∃ gP gL cur, e = .returned (.agg #[.int .i64 s.width, .bool s.cut, .slice (some ⟨gP, 0, none⟩) s.path.length s.path.length, .slice (some ⟨gL, 0, none⟩) s.left.length s.left.length]) ∧
    w.heap.size ≤ gP ∧ w.heap.size ≤ gL ∧ Blk w' gP 3 (intB s.path) ∧ Blk w' gL 27 cur ∧ cur.size = s.left.length ∧
    (∀ j (hj : j < s.left.length), ∃ gj, w.heap.size ≤ gj ∧ cur[j]? = some (.slice (some ⟨gj, 0, none⟩) s.left[j].length s.left[j].length) ∧ Blk w' gj 3 (intB s.left[j])) ∧ Below w.heap.size w w'
/-- The rows below i are copied. -/
def CloneL (base gL : Nat) (left : List (List Int)) (i : Nat) (W : World) : Prop :=
  ∃ cur, Blk W gL 27 cur ∧ cur.size = left.length ∧ ∀ j (hj : j < left.length), j < i → ∃ gj, base ≤ gj ∧ cur[j]? = some (.slice (some ⟨gj, 0, none⟩) left[j].length left[j].length) ∧ Blk W gj 3 (intB left[j])
theorem CloneL.step {base gL : Nat} {left : List (List Int)} {i n : Nat} {wr W5 w6 : World} {cur : Array Value} {z : Array Value} (hi : i < left.length) (qL : Blk wr gL 27 cur) (hcur : cur.size = left.length)
    (hrows : ∀ j (hj : j < left.length), j < i → ∃ gj, base ≤ gj ∧ cur[j]? = some (.slice (some ⟨gj, 0, none⟩) left[j].length left[j].length) ∧ Blk wr gj 3 (intB left[j])) (hb : base ≤ wr.heap.size)
    (hW5 : wr.alloc (.cells z 3) = W5) (hn : left[i].length = n) (hg : (W5.drew.setCell ⟨gL, i, none⟩ (.slice (some ⟨wr.heap.size, 0, none⟩) n n)).grownBy w6 (some wr.heap.size)) (hk : Blk w6 wr.heap.size 3 (intB left[i])) : CloneL base gL left (i + 1) w6 := by
  have hl := qL.lt
  refine ⟨_, (((qL.allocEq hW5).drew).set_ i (.slice (some ⟨wr.heap.size, 0, none⟩) n n)).grown hg (by simp; omega), by simp [hcur], fun j hj hji => ?_⟩
  by_cases e : j = i
  · subst e
    exact ⟨wr.heap.size, hb, by rw [hn]; simp [hcur, hj], hk⟩
  · obtain ⟨gj, h1, h2, h3⟩ := hrows j hj (by omega)
    have hlt := h3.lt
    have hne : gj ≠ gL := by
      rintro rfl
      have := h3.symm.trans qL
      simp at this
    refine ⟨gj, h1, ?_, (((h3.allocEq hW5).drew).far (p := ⟨gL, i, none⟩) hne _).grown hg (by simp; omega)⟩
    rw [← h2]
    simp [Array.getElem?_setIfInBounds, Ne.symm e]
set_option maxRecDepth 100000 in
theorem clone30s_any (v : Value) (s : Wd) (w : World) (hv : WdS w (Old w) v s) (hs : SmallWd s) : Calls Tryz.prog 57 #[v] w (CloneOut w s) := by
  obtain ⟨Ap, cp, Al, cl, rfl, hP, hL⟩ := hv.form
  obtain ⟨hs1, hs2, hs3⟩ := hs
  have hmkI : ∀ (W : World), (Instr.makeSlice 27 (.int .i64 (s.path.length : Int)) (.int .i64 (s.path.length : Int))).run Tryz.prog W = .ok (.slice (some ⟨W.heap.size, 0, none⟩) s.path.length s.path.length) (W.alloc (.cells (madeCells #[.int .i64 0] s.path.length) 3)) :=
    fun W => run_make_row' (P := Tryz.prog) 27 3 (.int .i64 0) 8 Tryz.underlying27 infoI10 rfl .i64 .i64 _ (by omega) (by omega) W
  have hmkS : ∀ (W : World), (Instr.makeSlice 28 (.int .i64 (s.left.length : Int)) (.int .i64 (s.left.length : Int))).run Tryz.prog W = .ok (.slice (some ⟨W.heap.size, 0, none⟩) s.left.length s.left.length) (W.alloc (.cells (madeCells #[.slice none 0 0] s.left.length) 27)) :=
    fun W => run_make_row' (P := Tryz.prog) 28 27 (.slice none 0 0) 24 Tryz.underlying28 infoS30 rfl .i64 .i64 _ (by omega) (by omega) W
  obtain ⟨W0, hW0⟩ : ∃ W0, (w.alloc (.cells #[.int .i64 s.width, .bool s.cut, .slice Ap s.path.length cp, .slice Al s.left.length cl] 30)).alloc (.cells #[.int .i64 0, .bool false, .slice none 0 0, .slice none 0 0] 30) = W0 := ⟨_, rfl⟩
  have hB := below_two hW0
  have k0 := Blk.two1 hW0
  have k1 := Blk.two2 hW0
  replace hP := hide hP
  replace hL := hide hL
  replace hs3 := hide hs3
  clear hv
  go_enter Tryz.func57, Tryz.ntmps57
  go_wp2_with fail
  clear hW0
  refine wp_region_rel (CloneW s Ap cp Al cl w.heap.size) (fun W => Below w.heap.size w W ∧ Blk W w.heap.size 30 #[.int .i64 s.width, .bool s.cut, .slice Ap s.path.length cp, .slice Al s.left.length cl] ∧ Blk W (w.heap.size + 1) 30 #[.int .i64 0, .bool false, .slice none 0 0, .slice none 0 0]) (CloneSt w.heap.size) cloneD (by kernel_rfl) (by kernel_rfl) (by kernel_rfl) cloneD_end (fun _ => []) (by kernel_rfl) clone_cg clone_keep ⟨hB.drew, k0, k1⟩ ?hstep ?hend
  case hstep =>
    intro i o ho vs W hS hd
    obtain ⟨hb, m0, m1⟩ := hS
    have hsz := m1.lt
    match i, ho with
    | 0, ho =>
      simp only [List.getElem?_cons_zero, List.getElem?_cons_succ, Option.some.injEq] at ho
      subst ho
      simp only [acV, List.getElem?_toArray, List.getElem?_cons_zero, List.getElem?_cons_succ, Act.put, List.setIfInBounds_toArray, List.set_cons_zero, List.set_cons_succ]
      go_wp2
      exact ⟨rfl, _, rfl, rfl, ⟨hb, m0, m1⟩, Below.refl _ _⟩
    | 1, ho =>
      have d0 := hd 0 (by simp [cloneD])
      simp only [CloneW] at d0
      simp only [List.getElem?_cons_zero, List.getElem?_cons_succ, Option.some.injEq] at ho
      subst ho
      simp only [acV, List.getElem?_toArray, List.getElem?_cons_zero, List.getElem?_cons_succ, Act.put, List.setIfInBounds_toArray, List.set_cons_zero, List.set_cons_succ]
      rw [d0]
      have c0 := m0.cell 0
      simp only [List.getElem?_toArray, List.getElem?_cons_zero, List.getElem?_cons_succ] at c0
      go_wp2
      exact ⟨rfl, _, rfl, rfl, ⟨hb, m0, m1⟩, Below.refl _ _⟩
    | 2, ho =>
      simp only [List.getElem?_cons_zero, List.getElem?_cons_succ, Option.some.injEq] at ho
      subst ho
      simp only [acV, List.getElem?_toArray, List.getElem?_cons_zero, List.getElem?_cons_succ, Act.put, List.setIfInBounds_toArray, List.set_cons_zero, List.set_cons_succ]
      go_wp2
      exact ⟨rfl, _, rfl, rfl, ⟨hb, m0, m1⟩, Below.refl _ _⟩
    | 3, ho =>
      have d0 := hd 2 (by simp [cloneD])
      simp only [CloneW] at d0
      simp only [List.getElem?_cons_zero, List.getElem?_cons_succ, Option.some.injEq] at ho
      subst ho
      simp only [acV, List.getElem?_toArray, List.getElem?_cons_zero, List.getElem?_cons_succ, Act.put, List.setIfInBounds_toArray, List.set_cons_zero, List.set_cons_succ]
      rw [d0]
      have c0 := m0.cell 1
      simp only [List.getElem?_toArray, List.getElem?_cons_zero, List.getElem?_cons_succ] at c0
      go_wp2
      exact ⟨rfl, _, rfl, rfl, ⟨hb, m0, m1⟩, Below.refl _ _⟩
    | 4, ho =>
      simp only [List.getElem?_cons_zero, List.getElem?_cons_succ, Option.some.injEq] at ho
      subst ho
      simp only [acV, List.getElem?_toArray, List.getElem?_cons_zero, List.getElem?_cons_succ, Act.put, List.setIfInBounds_toArray, List.set_cons_zero, List.set_cons_succ]
      go_wp2
      exact ⟨rfl, _, rfl, rfl, ⟨hb, m0, m1⟩, Below.refl _ _⟩
    | 5, ho =>
      have d0 := hd 4 (by simp [cloneD])
      simp only [CloneW] at d0
      simp only [List.getElem?_cons_zero, List.getElem?_cons_succ, Option.some.injEq] at ho
      subst ho
      simp only [acV, List.getElem?_toArray, List.getElem?_cons_zero, List.getElem?_cons_succ, Act.put, List.setIfInBounds_toArray, List.set_cons_zero, List.set_cons_succ]
      rw [d0]
      have c0 := m0.cell 2
      simp only [List.getElem?_toArray, List.getElem?_cons_zero, List.getElem?_cons_succ] at c0
      go_wp2
      exact ⟨rfl, _, rfl, rfl, ⟨hb, m0, m1⟩, Below.refl _ _⟩
    | 6, ho =>
      have d0 := hd 5 (by simp [cloneD])
      simp only [CloneW] at d0
      simp only [List.getElem?_cons_zero, List.getElem?_cons_succ, Option.some.injEq] at ho
      subst ho
      simp only [acV, List.getElem?_toArray, List.getElem?_cons_zero, List.getElem?_cons_succ, Act.put, List.setIfInBounds_toArray, List.set_cons_zero, List.set_cons_succ]
      rw [d0]
      go_wp2
      exact ⟨rfl, _, rfl, rfl, ⟨hb, m0, m1⟩, Below.refl _ _⟩
    | 7, ho =>
      have d0 := hd 6 (by simp [cloneD])
      simp only [CloneW] at d0
      simp only [List.getElem?_cons_zero, List.getElem?_cons_succ, Option.some.injEq] at ho
      subst ho
      simp only [acV, List.getElem?_toArray, List.getElem?_cons_zero, List.getElem?_cons_succ, Act.put, List.setIfInBounds_toArray, List.set_cons_zero, List.set_cons_succ]
      rw [d0]
      go_wp2
      exact ⟨rfl, _, rfl, ⟨W.heap.size, by omega, rfl, _, Blk.new _ _ _, by simp [size_madeCells]⟩, ⟨hb.alloc hb.size _, m0.alloc _, m1.alloc _⟩, (Below.refl _ _).alloc (Nat.le_refl _) _⟩
    | 8, ho =>
      simp only [List.getElem?_cons_zero, List.getElem?_cons_succ, Option.some.injEq] at ho
      subst ho
      simp only [acV, List.getElem?_toArray, List.getElem?_cons_zero, List.getElem?_cons_succ, Act.put, List.setIfInBounds_toArray, List.set_cons_zero, List.set_cons_succ]
      go_wp2
      exact ⟨rfl, _, rfl, rfl, ⟨hb, m0, m1⟩, Below.refl _ _⟩
    | 9, ho =>
      have d0 := hd 8 (by simp [cloneD])
      simp only [CloneW] at d0
      simp only [List.getElem?_cons_zero, List.getElem?_cons_succ, Option.some.injEq] at ho
      subst ho
      simp only [acV, List.getElem?_toArray, List.getElem?_cons_zero, List.getElem?_cons_succ, Act.put, List.setIfInBounds_toArray, List.set_cons_zero, List.set_cons_succ]
      rw [d0]
      have c0 := m0.cell 3
      simp only [List.getElem?_toArray, List.getElem?_cons_zero, List.getElem?_cons_succ] at c0
      go_wp2
      exact ⟨rfl, _, rfl, rfl, ⟨hb, m0, m1⟩, Below.refl _ _⟩
    | 10, ho =>
      have d0 := hd 9 (by simp [cloneD])
      simp only [CloneW] at d0
      simp only [List.getElem?_cons_zero, List.getElem?_cons_succ, Option.some.injEq] at ho
      subst ho
      simp only [acV, List.getElem?_toArray, List.getElem?_cons_zero, List.getElem?_cons_succ, Act.put, List.setIfInBounds_toArray, List.set_cons_zero, List.set_cons_succ]
      rw [d0]
      go_wp2
      exact ⟨rfl, _, rfl, rfl, ⟨hb, m0, m1⟩, Below.refl _ _⟩
    | 11, ho =>
      have d0 := hd 10 (by simp [cloneD])
      simp only [CloneW] at d0
      simp only [List.getElem?_cons_zero, List.getElem?_cons_succ, Option.some.injEq] at ho
      subst ho
      simp only [acV, List.getElem?_toArray, List.getElem?_cons_zero, List.getElem?_cons_succ, Act.put, List.setIfInBounds_toArray, List.set_cons_zero, List.set_cons_succ]
      rw [d0]
      go_wp2
      exact ⟨rfl, _, rfl, ⟨W.heap.size, by omega, rfl, _, Blk.new _ _ _, by simp [size_madeCells]⟩, ⟨hb.alloc hb.size _, m0.alloc _, m1.alloc _⟩, (Below.refl _ _).alloc (Nat.le_refl _) _⟩
    | 12, ho =>
      have d1 := hd 1 (by simp [cloneD])
      have d3 := hd 3 (by simp [cloneD])
      obtain ⟨g7, hg7, d7, _⟩ := hd 7 (by simp [cloneD])
      obtain ⟨g11, hg11, d11, _⟩ := hd 11 (by simp [cloneD])
      simp only [CloneW] at d1 d3
      simp only [List.getElem?_cons_zero, List.getElem?_cons_succ, Option.some.injEq] at ho
      subst ho
      simp only [acV, List.getElem?_toArray, List.getElem?_cons_zero, List.getElem?_cons_succ, Act.put, List.setIfInBounds_toArray, List.set_cons_zero, List.set_cons_succ]
      rw [d1, d3, d7, d11]
      go_wp2
      exact ⟨rfl, _, rfl, ⟨g7, g11, rfl, d7, d11⟩, ⟨hb, m0, m1⟩, Below.refl _ _⟩
    | 13, ho =>
      simp only [List.getElem?_cons_zero, List.getElem?_cons_succ, Option.some.injEq] at ho
      subst ho
      simp only [acV, List.getElem?_toArray, List.getElem?_cons_zero, List.getElem?_cons_succ, Act.put, List.setIfInBounds_toArray, List.set_cons_zero, List.set_cons_succ]
      go_wp2
      exact ⟨rfl, _, rfl, ⟨W.heap.size, by omega, rfl, _, _, _, _, Blk.new _ _ _⟩, ⟨hb.alloc hb.size _, m0.alloc _, m1.alloc _⟩, (Below.refl _ _).alloc (Nat.le_refl _) _⟩
    | 14, ho =>
      obtain ⟨g, hg, d13, x, y, z, u, q⟩ := hd 13 (by simp [cloneD])
      obtain ⟨g7, g11, d12, _, _⟩ := hd 12 (by simp [cloneD])
      simp only [List.getElem?_cons_zero, List.getElem?_cons_succ, Option.some.injEq] at ho
      subst ho
      simp only [acV, List.getElem?_toArray, List.getElem?_cons_zero, List.getElem?_cons_succ, Act.put, List.setIfInBounds_toArray, List.set_cons_zero, List.set_cons_succ]
      rw [d13, d12]
      have c0 := q.cell 0
      have c1 := q.cell 1
      have c2 := q.cell 2
      have c3 := q.cell 3
      have f0 := q.frozen 0
      have f1 := q.frozen 1
      have f2 := q.frozen 2
      have f3 := q.frozen 3
      simp only [List.getElem?_toArray, List.getElem?_cons_zero, List.getElem?_cons_succ] at c0 c1 c2 c3
      go_wp2
      have hq := (((q.set_ 0 (.int .i64 s.width)).set_ 1 (.bool s.cut)).set_ 2 (.slice (some ⟨g7, 0, none⟩) s.path.length s.path.length)).set_ 3 (.slice (some ⟨g11, 0, none⟩) s.left.length s.left.length)
      have n1 : w.heap.size ≠ g := by omega
      have n2 : w.heap.size + 1 ≠ g := by omega
      refine ⟨rfl, undef, rfl, ⟨g, _, _, _, _, (show updV vs 14 undef 13 = _ from d13), hg, (show updV vs 14 undef 12 = _ from d12), by simpa using hq⟩, ⟨(((hb.setCell (p := ⟨g, 0, none⟩) (by simp; omega) _).setCell (p := ⟨g, 1, none⟩) (by simp; omega) _).setCell (p := ⟨g, 2, none⟩) (by simp; omega) _).setCell (p := ⟨g, 3, none⟩) (by simp; omega) _, (((m0.far n1 _).far n1 _).far n1 _).far n1 _, (((m1.far n2 _).far n2 _).far n2 _).far n2 _⟩, ?_⟩
      unfold CloneSt
      rw [if_pos rfl]
      refine ⟨⟨rfl, rfl, rfl, by simp⟩, fun k hk => ?_⟩
      by_cases e : k = g
      · subst e
        exact .inr ⟨hg, _, _, q, hq, by simp⟩
      · exact .inl ((Below.heap_setCell _ ⟨g, 3, none⟩ _ k e).trans ((Below.heap_setCell _ ⟨g, 2, none⟩ _ k e).trans ((Below.heap_setCell _ ⟨g, 1, none⟩ _ k e).trans (Below.heap_setCell _ ⟨g, 0, none⟩ _ k e))))
    | n + 15, ho => simp at ho
  case hend =>
    rintro vs W ⟨hb, m0, m1⟩ hd
    obtain ⟨gP, hgP, d7, curP, qP, hcP⟩ := hd 7 (by simp) (by intro i _; simp)
    obtain ⟨gL, hgL, d11, curL, qL, hcL⟩ := hd 11 (by simp) (by intro i _; simp)
    obtain ⟨g7, g11, d12, d7', d11'⟩ := hd 12 (by simp) (by intro i _; simp)
    obtain ⟨g, x, y, z, u, d13, hg, d12', q⟩ := hd 14 (by simp) (by intro i _; simp)
    rw [d12] at d12'
    injection d12' with d12'
    simp only [Array.mk.injEq, List.cons.injEq, and_true] at d12'
    obtain ⟨rfl, rfl, rfl, rfl⟩ := d12'
    rw [d7] at d7'
    rw [d11] at d11'
    injection d7' with d7'
    injection d11' with d11'
    simp only [Option.some.injEq, Addr.mk.injEq, and_true] at d7' d11'
    subst d7' d11'
    have v0 : vs 0 = .pointer (some ⟨w.heap.size, 0, none⟩) := hd 0 (by simp) (by intro i _; simp)
    have v2 : vs 2 = .pointer (some ⟨w.heap.size, 1, none⟩) := hd 2 (by simp) (by intro i _; simp)
    clear hd
    simp only [acV, List.getElem?_toArray, List.getElem?_cons_zero, List.getElem?_cons_succ, Act.put, List.setIfInBounds_toArray, List.set_cons_zero, List.set_cons_succ, List.length_cons, List.length_nil, Nat.reduceAdd]
    rw [d12, d13]
    clear d12 d13 d7 d11 v0 v2 k0 k1 hB
    have hPw := hide (hP.out.keep (Agree.below hb (fun b h => h)) (fun b h => h))
    have hLw := hide (hL.out.keep (Agree.below hb (fun b h => h)) (fun b h => h))
    have hqg := hg
    clear hP
    generalize vs 0 = v0 at *
    generalize vs 1 = v1 at *
    generalize vs 2 = v2 at *
    generalize vs 3 = v3 at *
    generalize vs 4 = v4 at *
    generalize vs 5 = v5 at *
    generalize vs 6 = v6 at *
    generalize vs 7 = v7 at *
    generalize vs 8 = v8 at *
    generalize vs 9 = v9 at *
    generalize vs 10 = v10 at *
    generalize vs 11 = v11 at *
    have c2 := m0.cell 2
    have c3 := m0.cell 3
    have e2 := q.cell 2
    have e3 := q.cell 3
    simp only [List.getElem?_toArray, List.getElem?_cons_zero, List.getElem?_cons_succ] at c2 c3 e2 e3
    have hPa := hide (fun i hi => hPw.out.at_ (i := i) hi)
    go_wp2_with (refine wpList_copy_whole (Value.int .i64) rfl (.tmp 20) (.tmp 22) 27 27 rfl 3 Tryz.underlying27 sizeI30 gP s.path.length s.path.length cp Ap rfl rfl curP 3 qP hcP s.path rfl (fun i hi => by obtain ⟨b, off, hA, _, hc⟩ := hPa.out i hi; exact ⟨b, off, hA, hc⟩) (fun x _ => rfl) ?_; intro w4 kP hg4; have c3b := (m0.grown hg4 (by simp; omega)).cell 3; simp only [List.getElem?_toArray, List.getElem?_cons_zero, List.getElem?_cons_succ] at c3b)
    have hne : gP ≠ g := by rintro rfl; have := qP.symm.trans q; simp at this
    have hneL : gP ≠ gL := by rintro rfl; have := qP.symm.trans qL; simp at this
    have n0 : gP ≠ w.heap.size := by omega
    have n1 : gP ≠ w.heap.size + 1 := by omega
    have b4 := below_grown hb hg4 hb.size (by intro k hk; injection hk with hk; omega)
    replace m0 := m0.grown hg4 (by simp; omega)
    replace m1 := m1.grown hg4 (by simp; omega)
    replace q := q.grown hg4 (by simp; omega)
    replace qL := qL.grown hg4 (by simp; omega)
    replace hLw := hide (hL.out.keep (Agree.below b4 (fun b h => h)) (fun b h => h))
    obtain ⟨AlF, clF, hAl⟩ : ∃ AlF clF, Value.slice Al s.left.length cl = .slice AlF s.left.length clF := ⟨_, _, rfl⟩
    clear hAl c2 c3 e2 e3 hPw hPa hg4 qP hcP hb
    have hgLn : gL ≠ g := by rintro rfl; have := qL.symm.trans q; simp at this
    have l0 : gL ≠ w.heap.size := by omega
    have l1 : gL ≠ w.heap.size + 1 := by omega
    go_loopw [27] (fun s27 wr => ∃ i : Nat, i ≤ s.left.length ∧ s27 = .int .i64 i ∧ CloneL w.heap.size gL s.left i wr ∧ Blk wr gP 3 (intB s.path) ∧ Blk wr w.heap.size 30 #[.int .i64 s.width, .bool s.cut, .slice Ap s.path.length cp, .slice Al s.left.length cl] ∧ Blk wr (w.heap.size + 1) 30 #[.int .i64 0, .bool false, .slice none 0 0, .slice none 0 0] ∧ Blk wr g 30 #[.int .i64 s.width, .bool s.cut, .slice (some ⟨gP, 0, none⟩) s.path.length s.path.length, .slice (some ⟨gL, 0, none⟩) s.left.length s.left.length] ∧ Below w.heap.size w wr) (fun s27 _ => s.left.length - (intOf s27).toNat)
    case atStart => exact ⟨0, Nat.zero_le _, by go_num, ⟨curL, qL, hcL, fun j hj h => absurd h (by omega)⟩, kP, m0, m1, q, b4⟩
    case round =>
      clear kP m0 m1 q b4 qL hLw
      obtain ⟨i, hi, rfl, ⟨cur, qL, hcur, hrows⟩, kP, m0, m1, q, hb⟩ := hrel
      have hi1 : (0 : Int) ≤ (i : Int) := Int.natCast_nonneg _
      have hLw := hide (hL.out.keep (Agree.below hb (fun b h => h)) (fun b h => h))
      by_cases hlt : i < s.left.length
      · have hi2 : (i : Int) < (s.left.length : Int) := by omega
        obtain ⟨bl, ol, Ar, cr, rfl, hblo, d0, hrow⟩ := hLw.out.at_ hlt
        have hrl := hs3.out _ (List.getElem_mem hlt)
        have hRW := hide hrows
        clear hrows
        have hcat : ∃ old, cur[i]? = some old := ⟨_, Array.getElem?_eq_getElem (by omega)⟩
        obtain ⟨old, hold⟩ := hcat
        have e3 := q.cell 3
        simp only [List.getElem?_toArray, List.getElem?_cons_zero, List.getElem?_cons_succ] at e3
        have hrowN : s.left[i].length = s.left[i].length := rfl
        generalize hrowE : s.left[i] = row at *
        have hmkR : ∀ (W : World), (Instr.makeSlice 27 (.int .i64 (row.length : Int)) (.int .i64 (row.length : Int))).run Tryz.prog W = .ok (.slice (some ⟨W.heap.size, 0, none⟩) row.length row.length) (W.alloc (.cells (madeCells #[.int .i64 0] row.length) 3)) :=
          fun W => run_make_row' (P := Tryz.prog) 27 3 (.int .i64 0) 8 Tryz.underlying27 infoI10 rfl .i64 .i64 _ (by omega) (by omega) W
        obtain ⟨W5, hW5⟩ : ∃ W5, wr.alloc (.cells (madeCells #[.int .i64 0] row.length) 3) = W5 := ⟨_, rfl⟩
        have hs5 := size_allocEq hW5
        have hgLl := qL.lt
        have hgl := q.lt
        have nL : wr.heap.size ≠ gL := by omega
        have kN := Blk.newEq hW5
        have qc := (qL.allocEq hW5).cell i
        rw [hold] at qc
        have qf := (qL.allocEq hW5).frozen i
        have e35 := (q.allocEq hW5).cell 3
        simp only [List.getElem?_toArray, List.getElem?_cons_zero, List.getElem?_cons_succ] at e35
        have hbW := (below_allocEq (Below.refl wr.heap.size wr) hW5 (Nat.le_refl _))
        have hrow5 := hide (hrow.keep (Agree.below (B := w.heap.size) (w' := W5.drew.setCell ⟨gL, i, none⟩ (.slice (some ⟨wr.heap.size, 0, none⟩) row.length row.length)) (((hbW.mono hb.size).trans ⟨rfl, rfl, rfl, Nat.le_refl _, fun _ _ => rfl⟩ : Below w.heap.size wr W5.drew).setCell (p := ⟨gL, i, none⟩) (by simp; omega) _) (fun b h => h)) (fun b h => h))
        have hrowA := hide (fun j hj => hrow5.out.at_ (i := j) hj)
        have kN5 : Blk (W5.drew.setCell ⟨gL, i, none⟩ (.slice (some ⟨wr.heap.size, 0, none⟩) row.length row.length)) wr.heap.size 3 (madeCells #[.int .i64 0] row.length) := kN.drew.far (p := ⟨gL, i, none⟩) nL _
        have hmc : (madeCells #[.int .i64 0] row.length).size = row.length := by simp [size_madeCells]
        have h5 := hide hW5
        replace hmc := hide hmc
        clear kN hrow hrow5 hbW
        go_wp2_with fail
        refine wp_region_alts [0, 2, 3, 4] [1, 5, 6, 7] [[1, 5, 6, 7], [5, 1, 6, 7]] (by kernel_rfl) (by kernel_rfl) (fun _ _ d _ _ h => by cases d <;> exact h) ?_
        simp only [List.filterMap_cons, List.filterMap_nil, List.getElem?_cons_zero, List.getElem?_cons_succ]
        repeat still_step
        refine wpStill_nil ?_
        intro i0 hi0
        simp only [List.filterMap_cons, List.head?_cons, List.filterMap_nil, List.mem_cons, List.not_mem_nil, or_false, or_self] at hi0
        obtain rfl | rfl : i0 = 1 ∨ i0 = 5 := by omega
        · refine wpOp_list rfl ?_
          simp only [tailsOf, List.filterMap_cons, List.filterMap_nil, if_true, if_false, reduceIte, Nat.reduceEqDiff, List.length_cons, List.length_nil, Nat.reduceAdd]
          go_wp2_with fail
          refine wpAlt_one _ _ _ _ rfl ?_
          simp only [List.filterMap_cons, List.filterMap_nil, List.getElem?_toArray, List.getElem?_cons_zero, List.getElem?_cons_succ]
          go_wp2_with (refine wpList_copy_whole (Value.int .i64) rfl (.tmp 43) (.tmp 44) 27 27 rfl 3 Tryz.underlying27 sizeI30 wr.heap.size row.length row.length cr Ar rfl rfl (madeCells #[.int .i64 0] row.length) 3 kN5 hmc.out row rfl (fun i hi => by obtain ⟨b, off, hA, _, hc⟩ := hrowA.out i hi; exact ⟨b, off, hA, hc⟩) (fun x _ => rfl) ?_; intro w6 kR6 hg6)
          refine ⟨⟨i + 1, by omega, by go_num, CloneL.step hlt qL hcur hRW.out hb.size h5.out (by rw [hrowE]) hg6 (by rw [hrowE]; exact kR6), (((kP.allocEq h5.out).drew).far (p := ⟨gL, i, none⟩) hneL _).grown hg6 (by have := kP.lt; simp; omega), (((m0.allocEq h5.out).drew).far (p := ⟨gL, i, none⟩) (Ne.symm l0) _).grown hg6 (by have := m0.lt; simp; omega), (((m1.allocEq h5.out).drew).far (p := ⟨gL, i, none⟩) (Ne.symm l1) _).grown hg6 (by have := m1.lt; simp; omega), (((q.allocEq h5.out).drew).far (p := ⟨gL, i, none⟩) (Ne.symm hgLn) _).grown hg6 (by have := q.lt; simp; omega), below_grown (((below_allocEq hb h5.out hb.size).trans ⟨rfl, rfl, rfl, Nat.le_refl _, fun _ _ => rfl⟩ : Below w.heap.size w W5.drew).setCell (p := ⟨gL, i, none⟩) (by simp; omega) _) hg6 (by have := hb.size; simp; omega) (by intro k hk; have := hb.size; simp at hk; omega)⟩, by simp [intOf]; omega⟩
        · refine wpOp_list rfl ?_
          simp only [tailsOf, List.filterMap_cons, List.filterMap_nil, if_true, if_false, reduceIte, Nat.reduceEqDiff, List.length_cons, List.length_nil, Nat.reduceAdd]
          go_wp2_with fail
          refine wpAlt_one _ _ _ _ rfl ?_
          simp only [List.filterMap_cons, List.filterMap_nil, List.getElem?_toArray, List.getElem?_cons_zero, List.getElem?_cons_succ]
          go_wp2_with (refine wpList_copy_whole (Value.int .i64) rfl (.tmp 43) (.tmp 44) 27 27 rfl 3 Tryz.underlying27 sizeI30 wr.heap.size row.length row.length cr Ar rfl rfl (madeCells #[.int .i64 0] row.length) 3 kN5 hmc.out row rfl (fun i hi => by obtain ⟨b, off, hA, _, hc⟩ := hrowA.out i hi; exact ⟨b, off, hA, hc⟩) (fun x _ => rfl) ?_; intro w6 kR6 hg6)
          refine ⟨⟨i + 1, by omega, by go_num, CloneL.step hlt qL hcur hRW.out hb.size h5.out (by rw [hrowE]) hg6 (by rw [hrowE]; exact kR6), (((kP.allocEq h5.out).drew).far (p := ⟨gL, i, none⟩) hneL _).grown hg6 (by have := kP.lt; simp; omega), (((m0.allocEq h5.out).drew).far (p := ⟨gL, i, none⟩) (Ne.symm l0) _).grown hg6 (by have := m0.lt; simp; omega), (((m1.allocEq h5.out).drew).far (p := ⟨gL, i, none⟩) (Ne.symm l1) _).grown hg6 (by have := m1.lt; simp; omega), (((q.allocEq h5.out).drew).far (p := ⟨gL, i, none⟩) (Ne.symm hgLn) _).grown hg6 (by have := q.lt; simp; omega), below_grown (((below_allocEq hb h5.out hb.size).trans ⟨rfl, rfl, rfl, Nat.le_refl _, fun _ _ => rfl⟩ : Below w.heap.size w W5.drew).setCell (p := ⟨gL, i, none⟩) (by simp; omega) _) hg6 (by have := hb.size; simp; omega) (by intro k hk; have := hb.size; simp at hk; omega)⟩, by simp [intOf]; omega⟩
      · obtain rfl : i = s.left.length := by omega
        have d0 := q.cell 0
        have d1 := q.cell 1
        have d2 := q.cell 2
        have d3 := q.cell 3
        have x0 := m1.cell 0
        have x1 := m1.cell 1
        have x2 := m1.cell 2
        have x3 := m1.cell 3
        have f0 := m1.frozen 0
        have f1 := m1.frozen 1
        have f2 := m1.frozen 2
        have f3 := m1.frozen 3
        simp only [List.getElem?_toArray, List.getElem?_cons_zero, List.getElem?_cons_succ] at d0 d1 d2 d3 x0 x1 x2 x3
        have j0 := m1.set_ 0 (.int .i64 s.width)
        have j1 := j0.set_ 1 (.bool s.cut)
        have j2 := j1.set_ 2 (.slice (some ⟨gP, 0, none⟩) s.path.length s.path.length)
        have j3 := j2.set_ 3 (.slice (some ⟨gL, 0, none⟩) s.left.length s.left.length)
        simp only [List.setIfInBounds_toArray, List.set_cons_zero, List.set_cons_succ] at j3
        have y0 := j3.cell 0
        have y1 := j3.cell 1
        have y2 := j3.cell 2
        have y3 := j3.cell 3
        simp only [List.getElem?_toArray, List.getElem?_cons_zero, List.getElem?_cons_succ] at y0 y1 y2 y3
        clear j0 j1 j2 j3
        go_wp2
        refine bodyPost_ret (v := .agg #[.int .i64 s.width, .bool s.cut, .slice (some ⟨gP, 0, none⟩) s.path.length s.path.length, .slice (some ⟨gL, 0, none⟩) s.left.length s.left.length]) (by simp [results, Tryz.results57, go_sem, y0, y1, y2, y3]) rfl ?_
        have hl1 := m1.lt
        refine ⟨gP, gL, cur, rfl, by omega, by omega, (((kP.far (p := ⟨w.heap.size + 1, 0, none⟩) n1 _).far (p := ⟨w.heap.size + 1, 1, none⟩) n1 _).far (p := ⟨w.heap.size + 1, 2, none⟩) n1 _).far (p := ⟨w.heap.size + 1, 3, none⟩) n1 _, (((qL.far (p := ⟨w.heap.size + 1, 0, none⟩) l1 _).far (p := ⟨w.heap.size + 1, 1, none⟩) l1 _).far (p := ⟨w.heap.size + 1, 2, none⟩) l1 _).far (p := ⟨w.heap.size + 1, 3, none⟩) l1 _, hcur, fun j hj => ?_, (((hb.setCell (p := ⟨w.heap.size + 1, 0, none⟩) (by simp) _).setCell (p := ⟨w.heap.size + 1, 1, none⟩) (by simp) _).setCell (p := ⟨w.heap.size + 1, 2, none⟩) (by simp) _).setCell (p := ⟨w.heap.size + 1, 3, none⟩) (by simp) _⟩
        obtain ⟨gj, h1, h2, h3⟩ := hrows j hj hj
        have hne2 : gj ≠ w.heap.size + 1 := by rintro rfl; have := h3.symm.trans m1; simp at this
        exact ⟨gj, h1, h2, (((h3.far (p := ⟨w.heap.size + 1, 0, none⟩) hne2 _).far (p := ⟨w.heap.size + 1, 1, none⟩) hne2 _).far (p := ⟨w.heap.size + 1, 2, none⟩) hne2 _).far (p := ⟨w.heap.size + 1, 3, none⟩) hne2 _⟩
end Go.Proofs.YtjomijnbnbideaaGreatDoor

namespace Go.Inq

/-- May t come, as far as the nodes below j say? -/
def freeTo (H : List Txn) (path : List Int) (t j : Nat) : Bool := !path.contains (t : Int) && (List.range j).all fun (x : Nat) => !pastE H x t || path.contains (x : Int)
def comeTo (H : List Txn) (path : List Int) (k : Nat) : List Int := ((List.range k).filter fun (t : Nat) => freeTo H path t H.length).map fun (t : Nat) => (t : Int)
theorem freeTo_zero (H : List Txn) (path : List Int) (t : Nat) : freeTo H path t 0 = !path.contains (t : Int) := by simp [freeTo]
theorem freeTo_step (H : List Txn) (path : List Int) (t j : Nat) : freeTo H path t (j + 1) = (freeTo H path t j && (!pastE H j t || path.contains (j : Int))) := by
  unfold freeTo
  rw [List.range_succ, List.all_append, ← Bool.and_assoc]
  simp
theorem comeTo_all (H : List Txn) (path : List Int) : comeTo H path H.length = comeW H path := rfl
theorem comeTo_step (H : List Txn) (path : List Int) (k : Nat) : comeTo H path (k + 1) = comeTo H path k ++ (if freeTo H path k H.length then [(k : Int)] else []) := by
  unfold comeTo
  rw [List.range_succ, List.filter_append, List.map_append]
  congr 1
  cases h : freeTo H path k H.length <;> simp [List.filter_cons, h]
theorem comeTo_len (H : List Txn) (path : List Int) (k : Nat) : (comeTo H path k).length ≤ k := by
  unfold comeTo
  rw [List.length_map]
  exact Nat.le_trans (List.length_filter_le _ _) (by simp)
end Go.Inq

namespace Go.Proofs.YtjomijnbnbideaaGreatDoor
open Go.RowKit Go.Inq
set_option maxHeartbeats 1000000
attribute [local go_sem ↓] Go.wp_at_zero Go.wp_at_succ

/-- What come leaves. -/
def ComeOut (w : World) (H : List Txn) (tp B : Nat) (s : Wd) (vp vl0 : Value) (K : Nat → Prop) (e : Ending) (w' : World) : Prop :=
  ∃ vl, e = .returned (.tuple #[]) ∧ Blk w' tp 30 #[.int .i64 (putW H s).width, .bool (putW H s).cut, vp, vl] ∧ RowsS w' (fun b => (b ≠ tp ∧ b < w'.heap.size) ∧ (K b ∨ w.heap.size ≤ b ∨ some b = vl0.ownBlock)) vl (putW H s).left ∧ (∀ b, b < w.heap.size → b ≠ tp → some b ≠ vl0.ownBlock → w'.heap[b]? = w.heap[b]?) ∧ Below B w w'
set_option maxRecDepth 100000 in
theorem come30_any (A : Option Addr) (c : Nat) (H : List Txn) (tp B : Nat) (s : Wd) (Ap : Option Addr) (cp : Nat) (vl : Value) (K : Nat → Prop) (w : World) (h : TxnS w K (.slice A H.length c) H) (hn : SmallH H) (hr : rightH H = true) (hTB : TabB w)
    (ktp : Blk w tp 30 #[.int .i64 s.width, .bool s.cut, .slice Ap s.path.length cp, vl]) (hP : IntS w K (.slice Ap s.path.length cp) s.path) (hL : OwnR 1 RowR w K B 27 vl s.left)
    (hK : ∀ b, K b → b < w.heap.size ∧ b ≠ tp ∧ some b ≠ vl.ownBlock) (hB : B ≤ tp) (hvl : vl.ownBlock ≠ some tp) (hpl : s.path.length ≤ 1000000000) (hll : s.left.length ≤ 1000000000) (hw1 : 1 ≤ s.width) (hw2 : s.width ≤ 32) :
    Calls Tryz.prog 58 #[.pointer (some ⟨tp, 0, none⟩), .agg #[.slice A H.length c]] w (ComeOut w H tp B s (.slice Ap s.path.length cp) vl K) := by
  obtain ⟨ii, hii, hi1, hi2, hi3⟩ := info_parts infoI10
  obtain ⟨is, his, hs1, hs2, hs3⟩ := info_parts infoS30
  have h32 : H.length ≤ 32 := ((rightH_iff H).1 hr).1
  obtain ⟨Al, cl, rfl⟩ := hL.form
  obtain ⟨W0, hW0⟩ : ∃ W0, w.alloc (.cells #[.slice A H.length c] 24) = W0 := ⟨_, rfl⟩
  have hb := below_allocEq (Below.refl w.heap.size w) hW0 (Nat.le_refl _)
  have k0 := Blk.newEq hW0
  have hT := hide (TxnS.keep (K' := Old W0) h (Agree.below hb fun b hb => (hK b hb).1) (fun b hh => by have := (hK b hh).1; have := hb.size; unfold Old; omega))
  have c0 := k0.cell 0
  simp only [List.getElem?_toArray, List.getElem?_cons_zero, List.getElem?_cons_succ] at c0
  replace hn := hide hn
  replace hr := hide hr
  have hs0 := hide (size_allocEq hW0)
  go_enter Tryz.func58, Tryz.ntmps58
  go_wp2_with fail
  clear hW0 c0
  refine (past17_any A c H _ hT.out hn.out hr.out).mono ?_
  rintro e w1 ⟨g1, hg1, rfl, kR1, hb1⟩
  replace k0 := k0.below hb1 k0.lt
  replace hb := hb.trans (hb1.mono hb.size)
  clear hb1 hT
  go_wp2_with fail
  refine (turn12_any H.length _ _ (pastE H) (Old w1) _ (GrS.of_blk kR1 kR1.lt (by omega)) (fun b h => h) (hTB.below hb)).mono ?_
  rintro e w2 ⟨g, hg, rfl, kR, hb2⟩
  replace k0 := k0.below hb2 k0.lt
  have hgw := hb.size
  replace hb := hb.trans (hb2.mono hb.size)
  clear hb2 kR1
  obtain ⟨W3, hW3⟩ : ∃ W3, w2.alloc (.cells #[.int .i64 H.length, .slice (some ⟨g, 0, none⟩) H.length H.length] 56) = W3 := ⟨_, rfl⟩
  have kG := Blk.newEq hW3
  replace k0 := k0.allocEq hW3
  replace kR := kR.allocEq hW3
  have hs3w := size_allocEq hW3
  have hgw2 := hb.size
  replace hb := below_allocEq hb hW3 hb.size
  have c0 := k0.cell 0
  simp only [List.getElem?_toArray, List.getElem?_cons_zero, List.getElem?_cons_succ] at c0
  have hs3v := hide hs3w
  clear hs3w
  have hgB := hide hg
  clear hg hg1
  go_wp2_with fail
  clear hW3 c0
  go_loopw [6, 19] (fun s6 s19 wr => ∃ k : Nat, k ≤ H.length ∧ s19 = .int .i64 k ∧ OwnI wr W3.heap.size s6 (comeTo H s.path k) ∧ Below W3.heap.size W3 wr) (fun _ s19 _ => H.length - (intOf s19).toNat)
  case atStart => exact ⟨0, Nat.zero_le _, by go_num, OwnI.nil _ _, Below.refl _ _⟩
  case round =>
    obtain ⟨Wo, rfl⟩ : ∃ Wo, Wo = wr := ⟨_, rfl⟩
    obtain ⟨k, hk, rfl, hown, hbr⟩ := hrel
    have hk1 : (0 : Int) ≤ (k : Int) := Int.natCast_nonneg _
    have hbF := hb.trans (hbr.mono hb.size)
    have mtp := ktp.below hbF ktp.lt
    have m0 := k0.below hbr k0.lt
    have mG := kG.below hbr kG.lt
    have mR := kR.below hbr kR.lt
    have hPr := hide (hP.keep (Agree.below hbF fun b hb => (hK b hb).1) (fun b h => h))
    have c2 := mtp.cell 2
    have c0 := m0.cell 0
    simp only [List.getElem?_toArray, List.getElem?_cons_zero, List.getElem?_cons_succ] at c0 c2
    by_cases hlt : k < H.length
    · have hki : (k : Int) < (H.length : Int) := by omega
      have hcon := hide (fun W z (hq : IntS W K (.slice Ap s.path.length cp) s.path) => contains_int Ap cp s.path z K W hq (by unfold maxLen; omega))
      have hz := hide (freeTo_zero H s.path k)
      have hst := hide (comeTo_step H s.path k)
      have hln := comeTo_len H s.path k
      have hszo := hbr.size
      generalize hCk : comeTo H s.path k = L at *
      replace hCk := hide hCk
      replace hown := hide hown
      go_wp2_with fail
      refine (hcon.out _ _ hPr.out).mono ?_
      rintro e W4 ⟨rfl, rfl⟩
      go_wp2_with fail
      clear c0 c2
      go_loopw [8, 32] (fun s8 s32 wq => ∃ j : Nat, j ≤ H.length ∧ s32 = .int .i64 j ∧ s8 = .bool (freeTo H s.path k j) ∧ Below Wo.heap.size Wo wq) (fun _ s32 _ => H.length - (intOf s32).toNat)
      case atStart => exact ⟨0, Nat.zero_le _, by go_num, by rw [hz.out]; simp, Below.refl _ _⟩
      case round =>
        obtain ⟨j, hj, rfl, rfl, hbq⟩ := hrel
        have hj1 : (0 : Int) ≤ (j : Int) := Int.natCast_nonneg _
        by_cases hjl : j < H.length
        · have hj2 : (j : Int) < (H.length : Int) := by omega
          have hfs := hide (freeTo_step H s.path k j)
          have hE := hide (hasE_nat (E := turnE (pastE H)) hlt hjl)
          have hbQ := hbF.trans (hbq.mono hbF.size)
          have nG := mG.below hbq mG.lt
          have nR := mR.below hbq mR.lt
          have ntp := mtp.below hbq mtp.lt
          have d0 := nG.cell 0
          have d1 := nG.cell 1
          simp only [List.getElem?_toArray, List.getElem?_cons_zero, List.getElem?_cons_succ] at d0 d1
          have hcall := hide (has12_any H.length (some ⟨g, 0, none⟩) H.length (turnE (pastE H)) k j (Old wr) wr (GrS.of_blk nR nR.lt (by omega)) (fun b h => h))
          generalize hfr : freeTo H s.path k j = fr at *
          cases fr with
          | false =>
            have hn0 : Hid (freeTo H s.path k (j + 1) = false) := hide (by rw [hfs.out]; rfl)
            clear hfs hE hfr
            go_wp2
            go_roundw
            case rel => exact ⟨j + 1, by omega, by go_num, by rw [hn0.out], hbq⟩
            case measure => simp [intOf]; omega
          | true =>
            rw [hE.out] at hcall
            have hn0 : Hid (freeTo H s.path k (j + 1) = (!turnE (pastE H) k j || s.path.contains (j : Int))) := hide (by rw [hfs.out]; rfl)
            clear hfs hE hfr
            generalize turnE (pastE H) k j = hv at *
            go_wp2_with fail
            refine hcall.out.mono ?_
            rintro e W5 ⟨rfl, hb5⟩
            have hbq5 := hbq.trans (hb5.mono hbq.size)
            have hPq := hide (hPr.out.keep (Agree.below (hbq5.mono hbF.size) fun b hb => (hK b hb).1) (fun b h => h))
            have ntp5 := ntp.below hb5 ntp.lt
            have c2 := ntp5.cell 2
            simp only [List.getElem?_toArray, List.getElem?_cons_zero, List.getElem?_cons_succ] at c2
            clear hcall hb5 hbq hbQ d0 d1 nG nR ntp
            cases hv with
            | false =>
              go_wp2
              go_roundw
              case rel => exact ⟨j + 1, by omega, by go_num, by rw [hn0.out]; rfl, hbq5⟩
              case measure => simp [intOf]; omega
            | true =>
              go_wp2_with fail
              refine (hcon.out _ _ hPq.out).mono ?_
              rintro e W6 ⟨rfl, rfl⟩
              go_wp2
              go_roundw
              case rel => exact ⟨j + 1, by omega, by go_num, by rw [hn0.out]; simp, hbq5⟩
              case measure => simp [intOf]; omega
        · obtain rfl : j = H.length := by omega
          have hbQ := hbF.trans (hbq.mono hbF.size)
          have hown5 : OwnI wr W3.heap.size u6 L := own_below hown.out hbq (Nat.le_refl _)
          have hbR := hbr.trans (hbq.mono hbr.size)
          clear mtp m0 mG mR hPr hcon hz
          obtain ⟨As, cs, rfl⟩ := hown5.form
          cases hfr : freeTo H s.path k H.length with
          | false =>
            rw [hfr] at hst
            replace hfr := hide hfr
            go_wp2
            go_roundw
            case rel => exact ⟨k + 1, by omega, by go_num, by rw [hst.out]; simpa using hown5, hbR⟩
            case measure => simp [intOf]; omega
          | true =>
            rw [hfr] at hst
            replace hfr := hide hfr
            have hkD : L.length + 1 ≤ maxLen := by unfold maxLen; omega
            go_wp2_with (at_builtin; go_loud (refine wpList_push (enc := Go.Inq.encI) rfl (.tmp 53) (.tmp 55) 27 rfl W3.heap.size 3 ii _ 1 8 Tryz.underlying27 hii hi1 hi2 hi3 rfl (by decide) (.slice As L.length cs) L rfl hown5 (fun _ => rfl) (k : Int) _ rfl rfl Go.Inq.encI_one hkD (by omega) hbR.size W3 W3.heap.size (Nat.le_refl _) hbR ?_); intro v1 w6 hown1 hg1 hb1 hat1)
            go_roundw
            case rel => exact ⟨k + 1, by omega, by go_num, by rw [hst.out, if_pos rfl]; exact hown1, hb1⟩
            case measure => simp [intOf]; omega
    · obtain rfl : k = H.length := by omega
      rw [comeTo_all] at hown
      have hLn : (comeW H s.path).length ≤ H.length := comeTo_len H s.path H.length
      have hput : putW H s = { s with cut := s.cut || decide (s.width < ((comeW H s.path).length : Int)), left := s.left ++ [(comeW H s.path).take s.width.toNat] } := rfl
      generalize comeW H s.path = L at *
      obtain ⟨As, cs, rfl⟩ := hown.form
      obtain ⟨width, cut, path, left⟩ := s
      dsimp only at *
      obtain ⟨m, rfl⟩ : ∃ m : Nat, width = m := ⟨width.toNat, by omega⟩
      have hLS := hown.sl (K := fun b => W3.heap.size ≤ b ∧ b < Wo.heap.size) (fun g h1 h2 => ⟨h1, h2⟩)
      have c0' := mtp.cell 0
      have c1' := mtp.cell 1
      have c3' := mtp.cell 3
      have f1' := mtp.frozen 1
      have f3' := mtp.frozen 3
      simp only [List.getElem?_toArray, List.getElem?_cons_zero, List.getElem?_cons_succ] at c0' c1' c3'
      have htake : (L.take m).length ≤ cs := by
        obtain ⟨_, _, hq, hq2⟩ := SlR.len hLS
        injection hq with q1 q2 q3
        rw [List.length_take]; omega
      have hLc : L.length ≤ cs := by
        obtain ⟨_, _, hq, hq2⟩ := SlR.len hLS
        injection hq with q1 q2 q3
        omega
      rw [Int.toNat_natCast] at hput
      replace hput := hide hput
      have hWs := hbr.size
      have hw3 := hb.size
      have htpl := ktp.lt
      have hh63 : left.length + 1 ≤ maxLen := by unfold maxLen; omega
      replace hown := hide hown
      by_cases hlw : (m : Int) < (L.length : Int)
      · have hlwb : decide ((L.length : Int) > (m : Int)) = true := by simpa using hlw
        have hmL : m ≤ L.length := by omega
        have hmc : m ≤ cs := by omega
        have kX := mtp.set_ 1 (.bool true)
        simp only [List.setIfInBounds_toArray, List.set_cons_zero, List.set_cons_succ] at kX
        have hXa : ∀ b, b ≠ tp → (Wo.setCell ⟨tp, 1, none⟩ (.bool true)).heap[b]? = Wo.heap[b]? := fun b hb => Below.heap_setCell Wo ⟨tp, 1, none⟩ _ b hb
        have hXB : Below B w (Wo.setCell ⟨tp, 1, none⟩ (.bool true)) := (hbF.mono (by omega)).setCell (p := ⟨tp, 1, none⟩) hB _
        have hXs : (Wo.setCell ⟨tp, 1, none⟩ (.bool true)).heap.size = Wo.heap.size := by simp
        have hlt2 : (L.take m).length = m := by rw [List.length_take]; omega
        have hrow := IntS.take hLS hmL
        have hcut : (cut || decide ((m : Int) < (L.length : Int))) = true := by simp [hlw]
        rw [hcut] at hput
        generalize hXe : Wo.setCell ⟨tp, 1, none⟩ (.bool true) = X at *
        have hXK : ∀ b, K b → X.heap[b]? = w.heap[b]? := fun b hb => (hXa b (hK b hb).2.1).trans (hbF.block b (hK b hb).1)
        obtain ⟨Wc, hWc⟩ : ∃ Wc, X.alloc (.cells #[.slice As (m) cs] 27) = Wc := ⟨_, rfl⟩
        have kOne := Blk.newEq hWc
        have sWc := size_allocEq hWc
        have kT := kX.allocEq hWc
        rw [hXs] at kOne sWc
        have hXs2 : B ≤ X.heap.size := by omega
        have hA1 : Agree K w Wc := fun b hb => ((Agree.allocEq (K := K) hWc (fun b hb => by have := (hK b hb).1; omega)) b hb).trans (hXK b hb)
        have hlb := hL.lt
        have hOw : OwnR 1 RowR Wc (fun b => K b ∨ (W3.heap.size ≤ b ∧ b < Wo.heap.size + 1)) B 27 (.slice Al left.length cl) left := hL.keep RowR.stab hA1 (fun b h => .inl h) (fun g hg => by
          have h1 := (hlb g hg).2
          have h2 : g ≠ tp := by rintro rfl; exact hvl hg
          exact (Agree.allocEq (K := fun b => b = g) hWc (fun b hb => by omega) g rfl).trans ((hXa g h2).trans (hbF.block g h1)))
        have hrow1 : IntS Wc (fun b => K b ∨ (W3.heap.size ≤ b ∧ b < Wo.heap.size + 1)) (.slice As (m) cs) (L.take m) := hrow.keep (fun b hb => (Agree.allocEq (K := fun b => W3.heap.size ≤ b ∧ b < Wo.heap.size) hWc (fun b hb => by omega) b hb).trans (hXa b (by omega))) (fun b hb => .inr (by omega))
        have hsrc : SlR 1 RowR Wc (fun b => K b ∨ (W3.heap.size ≤ b ∧ b < Wo.heap.size + 1)) (.slice (some ⟨Wo.heap.size, 0, none⟩) 1 1) [L.take m] := SlR.one kOne rfl ⟨_, rfl, hrow1⟩ (.inr (by omega))
        have hAr : ∀ w', Wc.grownBy w' (Value.slice Al left.length cl).ownBlock → ∀ cs x, RowR Wc (fun b => K b ∨ (W3.heap.size ≤ b ∧ b < Wo.heap.size + 1)) cs x → RowR w' (fun b => K b ∨ (W3.heap.size ≤ b ∧ b < Wo.heap.size + 1)) cs x := fun w' hg cs x hR => RowR.stab _ _ _ _ _ _ hR (Agree.grown hg fun b hb => by
          rcases hb with hb | hb
          · have := hK b hb; exact ⟨by omega, this.2.2⟩
          · refine ⟨by omega, fun e => ?_⟩
            have := (hlb b e.symm).2
            omega) (fun _ h => h)
        have hbs : B ≤ Wc.heap.size := by omega
        have hBc := below_allocEq hXB hWc hXs2
        have t3 := kT.cell 3
        have x3 := kX.cell 3
        simp only [List.getElem?_toArray, List.getElem?_cons_zero, List.getElem?_cons_succ] at t3 x3
        have hhb : (left.length + 1) * 24 ≤ 140737488355328 := by omega
        have hcl := (hown.out.sl (K := Old Wo) (fun g _ h => h)) 
        clear hcl
        have hXW := hide (fun b (h1 : b < w.heap.size) (h2 : b ≠ tp) => (hXa b h2).trans (hbF.block b h1))
        replace hput := hide hput.out
        subst hXe
        go_wp2_with (at_builtin; go_loud (refine wpList_append_list (R := RowR) rfl (.tmp 78) (.tmp 80) 28 rfl B 27 is _ 1 24 Tryz.underlying28 his hs1 hs2 hs3 rfl (by decide) (.slice Al left.length cl) _ left rfl hOw _ [L.take m] rfl hsrc (fun cs x h => RowR.one h) hh63 hhb hbs hAr ?_); intro v1 w6 hO6 hg6 hat6; obtain ⟨A6, c6, rfl⟩ := hO6.form; have k6 := kT.grown hg6 (fun e => hvl e.symm); have g3 := k6.cell 3; have gf := k6.frozen 3; simp only [List.getElem?_toArray, List.getElem?_cons_zero, List.getElem?_cons_succ] at g3)
        go_end0
        unfold ComeOut
        rw [hput.out]
        dsimp only
        have k7 := k6.set_ 3 (.slice A6 (left.length + 1) c6)
        simp only [List.setIfInBounds_toArray, List.set_cons_zero, List.set_cons_succ] at k7
        have h6s := hg6.size
        have hne6 : (Value.slice A6 (left.length + 1) c6).ownBlock ≠ some tp := by
          intro e
          have e' : (Value.slice A6 (left ++ [L.take m]).length c6).ownBlock = some tp := by rw [List.length_append]; exact e
          rcases hat6 with h | h
          · rw [h] at e'; exact hvl e'
          · rw [h] at e'; injection e' with e'; omega
        have hl6 := hO6.lt
        have hO7 : OwnR 1 RowR w6 (fun b => (b ≠ tp ∧ b < w6.heap.size) ∧ (K b ∨ w.heap.size ≤ b ∨ some b = (Value.slice Al left.length cl).ownBlock)) B 27 (.slice A6 (left.length + 1) c6) (left ++ [L.take m]) := by
          have := hO6.keep RowR.stab (Agree.refl _ _) (K' := fun b => (b ≠ tp ∧ b < w6.heap.size) ∧ (K b ∨ w.heap.size ≤ b ∨ some b = (Value.slice Al left.length cl).ownBlock)) (fun b hb => by
            rcases hb with hb | hb
            · have := hK b hb; exact ⟨⟨this.2.1, by omega⟩, .inl hb⟩
            · exact ⟨⟨by omega, by omega⟩, .inr (.inl (by omega))⟩) (fun _ _ => rfl)
          rw [List.length_append] at this
          exact this
        have hS7 := hO7.sl (fun g hg => ⟨⟨fun e => hne6 (by rw [hg, e]), (hl6 g (by rw [List.length_append]; exact hg)).2⟩, by
          have hg' : (Value.slice A6 (left ++ [L.take m]).length c6).ownBlock = some g := by rw [List.length_append]; exact hg
          rcases hat6 with h | h
          · rw [h] at hg'; exact .inr (.inr hg'.symm)
          · rw [h] at hg'; injection hg' with hg'; exact .inr (.inl (by omega))⟩)
        refine ⟨.slice A6 (left.length + 1) c6, rfl, k7, SlR.keep RowR.stab hS7 (Agree.setCell ⟨tp, 3, none⟩ (fun h => h.1.1 rfl) _) (fun b hb => ⟨⟨hb.1.1, by simp; exact hb.1.2⟩, hb.2⟩), (fun b h1 h2 h3 => (Below.heap_setCell w6 ⟨tp, 3, none⟩ _ b h2).trans ((hg6.block b (by omega) h3).trans ((Agree.allocEq (K := fun x => x = b) hWc (fun x hx => by omega) b rfl).trans (hXW.out b h1 h2)))), (below_grown hBc hg6 hbs (fun k hk => (hlb k hk).1)).setCell (p := ⟨tp, 3, none⟩) hB _⟩
      · have hlwb : decide ((L.length : Int) > (m : Int)) = false := by simpa using hlw
        have htk : L.take m = L := List.take_of_length_le (by omega)
        rw [htk] at hput
        have kX := mtp
        have hXa : ∀ b, b ≠ tp → Wo.heap[b]? = Wo.heap[b]? := fun b hb => rfl
        have hXB : Below B w Wo := hbF.mono (by omega)
        have hXs : Wo.heap.size = Wo.heap.size := rfl
        have hrow := hLS
        have hcut : (cut || decide ((m : Int) < (L.length : Int))) = cut := by simp [hlw]
        rw [hcut] at hput
        obtain ⟨X, hXe⟩ : ∃ X, Wo = X := ⟨_, rfl⟩
        rw [hXe] at kX hXB
        have hXa : ∀ b, b ≠ tp → X.heap[b]? = Wo.heap[b]? := fun b hb => by rw [hXe]
        have hXs : X.heap.size = Wo.heap.size := by rw [hXe]
        have hXK : ∀ b, K b → X.heap[b]? = w.heap[b]? := fun b hb => (hXa b (hK b hb).2.1).trans (hbF.block b (hK b hb).1)
        obtain ⟨Wc, hWc⟩ : ∃ Wc, X.alloc (.cells #[.slice As (L.length) cs] 27) = Wc := ⟨_, rfl⟩
        have kOne := Blk.newEq hWc
        have sWc := size_allocEq hWc
        have kT := kX.allocEq hWc
        rw [hXs] at kOne sWc
        have hXs2 : B ≤ X.heap.size := by omega
        have hA1 : Agree K w Wc := fun b hb => ((Agree.allocEq (K := K) hWc (fun b hb => by have := (hK b hb).1; omega)) b hb).trans (hXK b hb)
        have hlb := hL.lt
        have hOw : OwnR 1 RowR Wc (fun b => K b ∨ (W3.heap.size ≤ b ∧ b < Wo.heap.size + 1)) B 27 (.slice Al left.length cl) left := hL.keep RowR.stab hA1 (fun b h => .inl h) (fun g hg => by
          have h1 := (hlb g hg).2
          have h2 : g ≠ tp := by rintro rfl; exact hvl hg
          exact (Agree.allocEq (K := fun b => b = g) hWc (fun b hb => by omega) g rfl).trans ((hXa g h2).trans (hbF.block g h1)))
        have hrow1 : IntS Wc (fun b => K b ∨ (W3.heap.size ≤ b ∧ b < Wo.heap.size + 1)) (.slice As (L.length) cs) (L) := hrow.keep (fun b hb => (Agree.allocEq (K := fun b => W3.heap.size ≤ b ∧ b < Wo.heap.size) hWc (fun b hb => by omega) b hb).trans (hXa b (by omega))) (fun b hb => .inr (by omega))
        have hsrc : SlR 1 RowR Wc (fun b => K b ∨ (W3.heap.size ≤ b ∧ b < Wo.heap.size + 1)) (.slice (some ⟨Wo.heap.size, 0, none⟩) 1 1) [L] := SlR.one kOne rfl ⟨_, rfl, hrow1⟩ (.inr (by omega))
        have hAr : ∀ w', Wc.grownBy w' (Value.slice Al left.length cl).ownBlock → ∀ cs x, RowR Wc (fun b => K b ∨ (W3.heap.size ≤ b ∧ b < Wo.heap.size + 1)) cs x → RowR w' (fun b => K b ∨ (W3.heap.size ≤ b ∧ b < Wo.heap.size + 1)) cs x := fun w' hg cs x hR => RowR.stab _ _ _ _ _ _ hR (Agree.grown hg fun b hb => by
          rcases hb with hb | hb
          · have := hK b hb; exact ⟨by omega, this.2.2⟩
          · refine ⟨by omega, fun e => ?_⟩
            have := (hlb b e.symm).2
            omega) (fun _ h => h)
        have hbs : B ≤ Wc.heap.size := by omega
        have hBc := below_allocEq hXB hWc hXs2
        have t3 := kT.cell 3
        have x3 := kX.cell 3
        simp only [List.getElem?_toArray, List.getElem?_cons_zero, List.getElem?_cons_succ] at t3 x3
        have hhb : (left.length + 1) * 24 ≤ 140737488355328 := by omega
        have hcl := (hown.out.sl (K := Old Wo) (fun g _ h => h)) 
        clear hcl
        have hXW := hide (fun b (h1 : b < w.heap.size) (h2 : b ≠ tp) => (hXa b h2).trans (hbF.block b h1))
        replace hput := hide hput.out
        subst hXe
        go_wp2_with (at_builtin; go_loud (refine wpList_append_list (R := RowR) rfl (.tmp 78) (.tmp 80) 28 rfl B 27 is _ 1 24 Tryz.underlying28 his hs1 hs2 hs3 rfl (by decide) (.slice Al left.length cl) _ left rfl hOw _ [L] rfl hsrc (fun cs x h => RowR.one h) hh63 hhb hbs hAr ?_); intro v1 w6 hO6 hg6 hat6; obtain ⟨A6, c6, rfl⟩ := hO6.form; have k6 := kT.grown hg6 (fun e => hvl e.symm); have g3 := k6.cell 3; have gf := k6.frozen 3; simp only [List.getElem?_toArray, List.getElem?_cons_zero, List.getElem?_cons_succ] at g3)
        go_end0
        unfold ComeOut
        rw [hput.out]
        dsimp only
        have k7 := k6.set_ 3 (.slice A6 (left.length + 1) c6)
        simp only [List.setIfInBounds_toArray, List.set_cons_zero, List.set_cons_succ] at k7
        have h6s := hg6.size
        have hne6 : (Value.slice A6 (left.length + 1) c6).ownBlock ≠ some tp := by
          intro e
          have e' : (Value.slice A6 (left ++ [L]).length c6).ownBlock = some tp := by rw [List.length_append]; exact e
          rcases hat6 with h | h
          · rw [h] at e'; exact hvl e'
          · rw [h] at e'; injection e' with e'; omega
        have hl6 := hO6.lt
        have hO7 : OwnR 1 RowR w6 (fun b => (b ≠ tp ∧ b < w6.heap.size) ∧ (K b ∨ w.heap.size ≤ b ∨ some b = (Value.slice Al left.length cl).ownBlock)) B 27 (.slice A6 (left.length + 1) c6) (left ++ [L]) := by
          have := hO6.keep RowR.stab (Agree.refl _ _) (K' := fun b => (b ≠ tp ∧ b < w6.heap.size) ∧ (K b ∨ w.heap.size ≤ b ∨ some b = (Value.slice Al left.length cl).ownBlock)) (fun b hb => by
            rcases hb with hb | hb
            · have := hK b hb; exact ⟨⟨this.2.1, by omega⟩, .inl hb⟩
            · exact ⟨⟨by omega, by omega⟩, .inr (.inl (by omega))⟩) (fun _ _ => rfl)
          rw [List.length_append] at this
          exact this
        have hS7 := hO7.sl (fun g hg => ⟨⟨fun e => hne6 (by rw [hg, e]), (hl6 g (by rw [List.length_append]; exact hg)).2⟩, by
          have hg' : (Value.slice A6 (left ++ [L]).length c6).ownBlock = some g := by rw [List.length_append]; exact hg
          rcases hat6 with h | h
          · rw [h] at hg'; exact .inr (.inr hg'.symm)
          · rw [h] at hg'; injection hg' with hg'; exact .inr (.inl (by omega))⟩)
        refine ⟨.slice A6 (left.length + 1) c6, rfl, k7, SlR.keep RowR.stab hS7 (Agree.setCell ⟨tp, 3, none⟩ (fun h => h.1.1 rfl) _) (fun b hb => ⟨⟨hb.1.1, by simp; exact hb.1.2⟩, hb.2⟩), (fun b h1 h2 h3 => (Below.heap_setCell w6 ⟨tp, 3, none⟩ _ b h2).trans ((hg6.block b (by omega) h3).trans ((Agree.allocEq (K := fun x => x = b) hWc (fun x hx => by omega) b rfl).trans (hXW.out b h1 h2)))), (below_grown hBc hg6 hbs (fun k hk => (hlb k hk).1)).setCell (p := ⟨tp, 3, none⟩) hB _⟩
end Go.Proofs.YtjomijnbnbideaaGreatDoor

namespace Go.Proofs.YtjomijnbnbideaaGreatDoor
open Go.ChangeShapes Go.WideShapes Go.ChangeAt Go.RowKit Go.Inq

theorem own : ownKnob Tryz.prog.godebug = none := by kernel_rfl
theorem laidOut : laidOutB Tryz.prog = true := by kernel_rfl
theorem returnsInHanded_shaped_and {H : Type} {enc : TypeId × Value → H} {a : Assume} {C : Checked} {os : Os} {f : FuncId} {fn : Func} {s : ChangeSpec} {conds : List PathCond} {apart fresh handsOn again : Bool} {X : World → Array Value → Prop}
    (hX : ∀ (w w' : World) (args : Array Value), w.heap = w'.heap → X w args → X w' args)
    (own : ownKnob C.prog.godebug = none) (started : os.Started) (noInit : C.prog.inits.idxOf? f = none) (hfn : C.prog.funcs[f]? = some fn)
    (witness : ∃ (w : World) (tape : Tape) (i : Input), w.os = os ∧ (w.forCall tape i).Shaped C.prog ∧ i.vars = [] ∧ Input.okWide C.prog (w.forCall tape i) .any w.heap.size f i ∧
      ((s.pre enc C.prog fn conds apart (w.forCall tape i).memory i.args ∧ X (w.forCall tape i).memory i.args) ∧ sizedMet enc C.prog fn (OpenSpec.ofChange s) apart (w.forCall tape i).memory i.args) ∧ a.holds C.prog (lone (Frame.enter C.prog f i.args .normal) [] (w.forCall tape i)))
    (contract : ∀ (W : World) (base : Nat) (args : Array Value) (ds gs : List (DataW H)) (before : List MemPlace),
      (∀ (j : Nat) t v, fn.params[j]? = some t → args[j]? = some v → Value.okWide C.prog W .any base t v) →
      DataW.Whole enc C.prog fn.params.toList s.vars apart W args.toList ds gs before →
      X W args → W.ShapedOpen C.prog →
      Calls C.prog f args W fun e W' => ∃ v, e = .returned v ∧ s.post enc C.prog fn apart fresh handsOn again W args v W') :
    ReturnsInHanded a C os f .any (fun w args => (s.pre enc C.prog fn conds apart w args ∧ X w args) ∧ sizedMet enc C.prog fn (OpenSpec.ofChange s) apart w args) (s.post enc C.prog fn apart fresh handsOn again) := by
  refine returnsInHanded_of_calls own started noInit witness ?_
  intro w tape i _ hsh _ hok hpre hholds
  obtain ⟨_, _, _, fn', hfn', _, _, _, _, hval⟩ := hok
  have e : fn' = fn := Option.some.inj (hfn'.symm.trans hfn)
  subst e
  obtain ⟨⟨⟨ds, gs, before, hw, hc⟩, hx⟩, hz⟩ := hpre
  have hw' := DataW.Whole.of_heap (w' := w.forCall tape i) (by rfl) hw
  refine (contract (w.forCall tape i) w.heap.size i.args ds gs before hval hw' (hX _ _ _ (by rfl) hx) hsh).mono fun e W' ⟨v, he, hp⟩ => ?_
  subst he
  exact ChangeSpec.post_blind hp

/-- Types whose data stay readable in a world that only grew. -/
def keptTypes (P : Program) (ts : List TypeId) : Bool := ts.all fun t => P.readableRec t && decide (t < P.types.size)
theorem Below.trodAllP {P : Program} (hl : laidOutB P = true) {H : Type} {enc : TypeId × Value → H} {W W' : World} (hb : Below W.heap.size W W') : ∀ (ts : List TypeId) (vs : List Value) (ds : List (DataW H)) (ps : List MemPlace), keptTypes P ts = true →
    DataW.TrodAll enc P W 0 (fun _ => true) true ts vs ds ps → (∀ x ∈ ps, x.block < W.heap.size) → DataW.TrodAll enc P W' 0 (fun b => decide (b < W.heap.size)) true ts vs ds ps := by
  intro ts
  induction ts with
  | nil =>
    intro vs ds ps _ h _
    cases vs with
    | cons => exact h.elim
    | nil =>
      cases ds with
      | cons => exact h.elim
      | nil => exact h
  | cons t ts ih =>
    intro vs ds ps hk h hlt
    cases vs with
    | nil => exact h.elim
    | cons v vs =>
      cases ds with
      | nil => exact h.elim
      | cons d ds =>
        obtain ⟨p, q, h1, h2, rfl⟩ := h
        unfold keptTypes at hk
        rw [List.all_cons, Bool.and_eq_true, Bool.and_eq_true] at hk
        exact ⟨p, q, Below.trod hl hk.1.1 (of_decide_eq_true hk.1.2) h1 hb (fun x hx => hlt x (List.mem_append.2 (.inl hx))), ih _ _ _ hk.2 h2 (fun x hx => hlt x (List.mem_append.2 (.inr hx))), rfl⟩
theorem Below.trodAll {H : Type} {enc : TypeId × Value → H} {W W' : World} (hb : Below W.heap.size W W') {ts : List TypeId} {vs : List Value} {ds : List (DataW H)} {ps : List MemPlace} (hk : keptTypes Tryz.prog ts = true)
    (h : DataW.TrodAll enc Tryz.prog W 0 (fun _ => true) true ts vs ds ps) (hlt : ∀ x ∈ ps, x.block < W.heap.size) : DataW.TrodAll enc Tryz.prog W' 0 (fun b => decide (b < W.heap.size)) true ts vs ds ps :=
  Below.trodAllP laidOut hb ts vs ds ps hk h hlt

/-- A number that came in lies in its kind's range. -/
theorem okWide_range {P : Program} {w : World} {base : Nat} {t : TypeId} {k : IntKind} {n : Int} (ht : P.underlying t = some (.int k)) (h : Value.okWide P w .any base t (.int k n)) : k.has n := by
  simp only [Value.okWide, ht, Cell.okWide] at h
  simp only [Cell.ok, ht] at h
  exact h.2
theorem TabB.of {l : List (String × DataW Unit)} {W : World} (h : laidMetH Tryz.prog l W) (hp : laidMetH Tryz.prog l W = laidMet Tryz.prog l W) (hm : ("math/bits.deBruijn64tab", Rows.laid_math_bits_deBruijn64tab) ∈ l) : TabB W := by
  rw [hp] at h
  obtain ⟨g, t, cs, fuel, p, hg, ht, hv, hd⟩ := Lib.laidMet.reads h hm
  obtain rfl := Option.some.inj ((show Tryz.prog.globalNamed "math/bits.deBruijn64tab" = some 0 by kernel_rfl).symm.trans hg)
  obtain rfl := Option.some.inj ((show (Tryz.prog.globals[0]?).map (·.type) = some 261 by kernel_rfl).symm.trans ht)
  have hc := Lib.cells_of_tab (k := .u8) (zs := Lib.deBruijn64tab.map fun (x : Nat) => (x : Int)) Tryz.underlying261 Tryz.underlying5 (by kernel_rfl) (by kernel_rfl) hd
  intro j hj
  rw [World.var?_cell hg hv j]
  have h1 : cs.toList[j]? = some (.int .u8 (Lib.deBruijn64tab.getD j 0)) := by
    rw [hc, List.getElem?_map, List.getElem?_map, List.getElem?_eq_getElem hj]
    simp [List.getD_eq_getElem?_getD, List.getElem?_eq_getElem hj]
  simpa using h1
end Go.Proofs.YtjomijnbnbideaaGreatDoor

namespace Go.Proofs.YtjomijnbnbideaaGreatDoor
open Go.Joins Go.ChangeShapes Go.WideShapes Go.ChangeAt Go.RowKit Go.Deep Go.Inq
section
variable {H : Type} {enc : TypeId × Value → H} {w : World} {base : Nat} {spare : Nat → Bool} {held : Bool}

theorem open_rows {α : Type} {size : Nat} {R : World → (Nat → Prop) → List Value → α → Prop} {te ts : TypeId} (P : α → Prop) (x0 : α) (hT : Tryz.prog.underlying ts = some (.slice te)) (hC : Tryz.prog.cellsOf te = size) (hs0 : 0 < size)
    (hop : ∀ n cs x, DataW.trod enc Tryz.prog w base spare held n te cs = some x → ∃ t, R w (Old w) cs t ∧ P t)
    {n : Nat} {v : Value} {x : DataW H × List MemPlace} (h : DataW.trod enc Tryz.prog w base spare held n ts [v] = some x) :
    ∃ (A : Option Addr) (c : Nat) (l : List α), v = .slice A l.length c ∧ SlR size R w (Old w) (.slice A l.length c) l ∧ l.length ≤ maxLen ∧ ∀ t ∈ l, P t := by
  rcases open_slice hT h with ⟨h1, _⟩ | ⟨a, len, cap, m, n', D, Pl, h1, _, hl, hm, hmm, hx, hi⟩
  · injection h1 with h1
    exact ⟨none, 0, [], h1, SlR.nil _ _ _ _ _ _, Nat.zero_le _, fun t ht => by simp at ht⟩
  · injection h1 with h1
    subst h1
    rw [hC] at hi
    have hlm : len ≤ m := by rw [hmm]; split <;> omega
    have hex : ∀ i, ∃ p : α × List Value, i < len → p.2.length = size ∧ R w (Old w) p.2 p.1 ∧ P p.1 ∧ ∀ j u, p.2[j]? = some u → w.cell? (a.add (i * size + j)) = some u := fun i => by
      by_cases hil : i < len
      · obtain ⟨cs, hc, ht⟩ := hi i (by omega)
        obtain ⟨t, hR, hP⟩ := hop _ _ _ ht
        obtain ⟨_, hcl, hat⟩ := World.cells?_some hc
        refine ⟨(t, cs), fun _ => ⟨by simpa using hcl, hR, hP, fun j u hj => ?_⟩⟩
        have hj4 : j < size := by
          rcases Nat.lt_or_ge j size with h | h
          · exact h
          · rw [List.getElem?_eq_none (by dsimp only; omega)] at hj; cases hj
        rw [← Go.Deep.add_add, hat j hj4]
        exact hj
      · exact ⟨(x0, []), fun h => absurd h hil⟩
    obtain ⟨f, hf⟩ := Classical.axiomOfChoice hex
    have hlen : ((List.range len).map fun i => (f i).1).length = len := by simp
    refine ⟨some a, cap, (List.range len).map fun i => (f i).1, by rw [hlen], ⟨some a, cap, (List.range len).map fun i => (f i).2, rfl, by omega, by simp, fun i cs x h1 h2 => ?_, fun h0 => ?_⟩, by omega, fun t ht => ?_⟩
    · simp only [List.getElem?_map] at h1 h2
      cases hr : (List.range len)[i]? with
      | none => rw [hr] at h1; cases h1
      | some k =>
        rw [hr] at h1 h2
        simp at h1 h2
        subst h1 h2
        have hk : k < len := by
          rw [List.getElem?_eq_some_iff] at hr
          obtain ⟨h3, h4⟩ := hr
          simp at h3 h4
          omega
        exact ⟨(hf k hk).1, (hf k hk).2.1⟩
    · rw [hlen] at h0
      obtain ⟨g1, _, _, g4⟩ := hf 0 h0
      have hc0 := g4 0 ((f 0).2[0]'(by omega)) (List.getElem?_eq_getElem (by omega))
      obtain ⟨_, _, _, _, hs⟩ := World.shape?_of_cell? hc0
      obtain ⟨b, o, sp⟩ := a
      have hsp : sp = none := by
        cases sp with
        | none => rfl
        | some q => simp [Addr.add] at hs
      subst hsp
      have hbl : b < w.heap.size := by have := block_lt_of_cell hc0; rwa [Addr.add_lit] at this
      refine ⟨b, o, rfl, hbl, fun i j cs u h1 h2 => ?_⟩
      simp only [List.getElem?_map] at h1
      cases hr : (List.range len)[i]? with
      | none => rw [hr] at h1; cases h1
      | some k =>
        rw [hr] at h1
        simp at h1
        subst h1
        have hk : k = i ∧ i < len := by
          rw [List.getElem?_eq_some_iff] at hr
          obtain ⟨h3, h4⟩ := hr
          simp at h3 h4
          exact ⟨h4.symm, h3⟩
        have := (hf i hk.2).2.2.2 j u (by rw [← hk.1]; exact h2)
        rw [Addr.add_lit, ← Nat.add_assoc] at this
        exact this
    · obtain ⟨k, hk, rfl⟩ := List.mem_map.1 ht
      exact (hf k (by simpa using hk)).2.2.1

theorem open_num {n : Nat} {cs : List Value} {x : DataW H × List MemPlace} (h : DataW.trod enc Tryz.prog w base spare held n 3 cs = some x) : ∃ k : Int, Go.Inq.Flat Go.Inq.encI w (Old w) cs k ∧ True := by
  obtain ⟨k, e, _⟩ := DataW.trod_int Tryz.underlying3 h
  exact ⟨k, e, trivial⟩
theorem open_nums {n : Nat} {v : Value} {x : DataW H × List MemPlace} (h : DataW.trod enc Tryz.prog w base spare held n 27 [v] = some x) :
    ∃ (A : Option Addr) (c : Nat) (l : List Int), v = .slice A l.length c ∧ IntS w (Old w) (.slice A l.length c) l ∧ l.length ≤ maxLen := by
  obtain ⟨A, c, l, h1, h2, h3, _⟩ := open_rows (R := Go.Inq.Flat Go.Inq.encI) (size := 1) (fun _ => True) 0 Tryz.underlying27 (by kernel_rfl) (by decide) (fun n cs x h => open_num h) h
  exact ⟨A, c, l, h1, h2, h3⟩
theorem open_take {n : Nat} {cs : List Value} {x : DataW H × List MemPlace} (hC : Tryz.prog.cellsOf 112 = 2) (h : DataW.trod enc Tryz.prog w base spare held n 112 cs = some x) : ∃ e : It, Go.Inq.Flat It.enc w (Old w) cs e ∧ True := by
  obtain ⟨y0, y1, n', _, hl, h0, h1⟩ := trod_struct2 Tryz.underlying112 h
  rw [hC] at hl
  have h31 : Tryz.prog.cellsOf 3 = 1 := by kernel_rfl
  simp only [h31] at h0 h1
  match cs, hl with
  | [a, b], _ =>
    obtain ⟨k0, e0, _⟩ := DataW.trod_int Tryz.underlying3 h0
    obtain ⟨k1, e1, _⟩ := DataW.trod_int Tryz.underlying3 h1
    simp at e0 e1
    exact ⟨⟨k0, k1⟩, by unfold Go.Inq.Flat; simp [It.enc, e0, e1], trivial⟩
theorem open_takes {n : Nat} {v : Value} {x : DataW H × List MemPlace} (h : DataW.trod enc Tryz.prog w base spare held n 99 [v] = some x) :
    ∃ (A : Option Addr) (c : Nat) (l : List It), v = .slice A l.length c ∧ ItS w (Old w) (.slice A l.length c) l ∧ l.length ≤ maxLen := by
  obtain ⟨A, c, l, h1, h2, h3, _⟩ := open_rows (R := Go.Inq.Flat It.enc) (size := 2) (fun _ => True) ⟨0, 0⟩ Tryz.underlying99 (by kernel_rfl) (by decide) (fun n cs x h => open_take (by kernel_rfl) h) h
  exact ⟨A, c, l, h1, h2, h3⟩
theorem open_txn {n : Nat} {cs : List Value} {x : DataW H × List MemPlace} (hC : Tryz.prog.cellsOf 101 = 3) (h : DataW.trod enc Tryz.prog w base spare held n 101 cs = some x) :
    ∃ t : Txn, TxnR w (Old w) cs t ∧ t.writes.length ≤ maxLen ∧ t.reads.length ≤ maxLen := by
  obtain ⟨y0, y1, y2, n', _, hl, h0, h1, h2⟩ := trod_struct3 Tryz.underlying101 h
  rw [hC] at hl
  have e1 : Tryz.prog.cellsOf 3 = 1 := by kernel_rfl
  have e2 : Tryz.prog.cellsOf 27 = 1 := by kernel_rfl
  have e3 : Tryz.prog.cellsOf 99 = 1 := by kernel_rfl
  simp only [e1, e2, e3] at h0 h1 h2
  match cs, hl with
  | [a, b, c], _ =>
    obtain ⟨k0, e0, _⟩ := DataW.trod_int Tryz.underlying3 h0
    simp at e0
    have h1' : DataW.trod enc Tryz.prog w base spare held n' 27 [b] = some y1 := by simpa using h1
    have h2' : DataW.trod enc Tryz.prog w base spare held n' 99 [c] = some y2 := by simpa using h2
    obtain ⟨A, c', l, hv, hev, hlen⟩ := open_nums h1'
    obtain ⟨A2, c2', l2, hv2, hev2, hlen2⟩ := open_takes h2'
    exact ⟨⟨k0, l, l2⟩, ⟨b, c, by rw [e0], by rw [hv]; exact hev, by rw [hv2]; exact hev2⟩, hlen, hlen2⟩
theorem open_txns {n : Nat} {v : Value} {x : DataW H × List MemPlace} (h : DataW.trod enc Tryz.prog w base spare held n 22 [v] = some x) :
    ∃ (A : Option Addr) (c : Nat) (l : List Txn), v = .slice A l.length c ∧ TxnS w (Old w) (.slice A l.length c) l ∧ l.length ≤ maxLen ∧ ∀ t ∈ l, t.writes.length ≤ maxLen ∧ t.reads.length ≤ maxLen :=
  open_rows (R := TxnR) (size := 3) (fun t => t.writes.length ≤ maxLen ∧ t.reads.length ≤ maxLen) ⟨0, [], []⟩ Tryz.underlying22 (by kernel_rfl) (by decide) (fun n cs x h => open_txn (by kernel_rfl) h) h
/-- A history. -/
theorem open_hist {n : Nat} {cs : List Value} {x : DataW H × List MemPlace} (hC : Tryz.prog.cellsOf 24 = 1) (h : DataW.trod enc Tryz.prog w base spare held n 24 cs = some x) :
    ∃ (A : Option Addr) (c : Nat) (l : List Txn), cs = [.slice A l.length c] ∧ TxnS w (Old w) (.slice A l.length c) l ∧ l.length ≤ maxLen ∧ ∀ t ∈ l, t.writes.length ≤ maxLen ∧ t.reads.length ≤ maxLen := by
  obtain ⟨y0, n', _, hl, h0⟩ := trod_struct1 Tryz.underlying24 h
  rw [hC] at hl
  have e1 : Tryz.prog.cellsOf 22 = 1 := by kernel_rfl
  simp only [e1] at h0
  match cs, hl with
  | [a], _ =>
    have h0' : DataW.trod enc Tryz.prog w base spare held n' 22 [a] = some y0 := by simpa using h0
    obtain ⟨A, c, l, hv, h1, h2, h3⟩ := open_txns h0'
    exact ⟨A, c, l, by rw [hv], h1, h2, h3⟩
end
end Go.Proofs.YtjomijnbnbideaaGreatDoor

namespace Go.Inq

theorem wwE_mono {l l' : List Cho} (h : ∀ c ∈ l, c ∈ l') {x y : Nat} (he : wwE l x y = true) : wwE l' x y = true := by
  unfold wwE at he ⊢
  rw [List.any_eq_true] at he ⊢
  obtain ⟨c, hc, h2⟩ := he
  exact ⟨c, h c hc, h2⟩
theorem rwE_mono {H : List Txn} {l l' : List Cho} (h : ∀ c ∈ l, c ∈ l') {x y : Nat} (he : rwE H l x y = true) : rwE H l' x y = true := by
  unfold rwE at he ⊢
  rw [Bool.or_eq_true] at he ⊢
  rcases he with he | he
  · exact .inl he
  · rw [List.any_eq_true] at he ⊢
    obtain ⟨c, hc, h2⟩ := he
    exact .inr ⟨c, h c hc, h2⟩
theorem fullE_mono {H : List Txn} {level : Int} {l l' : List Cho} (h : ∀ c ∈ l, c ∈ l') {x y : Nat} (he : fullE H level l x y = true) : fullE H level l' x y = true := by
  have hd : ∀ a b, orE (pastE H) (wwE l) a b = true → orE (pastE H) (wwE l') a b = true := fun a b g => by
    unfold orE at g ⊢
    rw [Bool.or_eq_true] at g ⊢
    exact g.imp id (wwE_mono h)
  show (orE (pastE H) (wwE l') x y || (if level = 1 then thenE H.length (orE (pastE H) (wwE l')) (rwE H l') else rwE H l') x y) = true
  have he' : (orE (pastE H) (wwE l) x y || (if level = 1 then thenE H.length (orE (pastE H) (wwE l)) (rwE H l) else rwE H l) x y) = true := he
  rw [Bool.or_eq_true] at he' ⊢
  rcases he' with g | g
  · exact .inl (hd x y g)
  · right
    by_cases hl : level = 1
    · rw [if_pos hl] at g ⊢
      unfold thenE at g ⊢
      rw [List.any_eq_true] at g ⊢
      obtain ⟨b, hb, h2⟩ := g
      rw [Bool.and_eq_true] at h2
      exact ⟨b, hb, by rw [hd x b h2.1, rwE_mono h h2.2]; rfl⟩
    · rw [if_neg hl] at g ⊢
      exact rwE_mono h g
theorem wayB_mono {E F : Edges} (h : ∀ x y, E x y = true → F x y = true) : ∀ (l : List Nat) (x y : Nat), wayB E x l y = true → wayB F x l y = true
  | [], x, y, hw => h x y hw
  | a :: l, x, y, hw => by
    have hw' : (E x a && wayB E a l y) = true := hw
    rw [Bool.and_eq_true] at hw'
    show (F x a && wayB F a l y) = true
    rw [h x a hw'.1, wayB_mono h l a y hw'.2]
    rfl
theorem cyc_mono {n : Nat} {E F : Edges} (h : ∀ x y, E x y = true → F x y = true) (hc : cycB n E = true) : cycB n F = true := by
  unfold cycB at hc ⊢
  rw [List.any_eq_true] at hc ⊢
  obtain ⟨x, hx, h2⟩ := hc
  obtain ⟨l, hl, hw⟩ := cloTo_way n x x h2
  exact ⟨x, hx, way_cloTo n l.length l x x (Nat.le_refl _) hl (wayB_mono h l x x hw)⟩
/-- Does nothing lead back? -/
def goodB (H : List Txn) (level : Int) (l : List Cho) : Bool := !cycB H.length (fullE H level l)
theorem good_less {H : List Txn} {level : Int} {l l' : List Cho} (h : ∀ c ∈ l, c ∈ l') (hg : goodB H level l' = true) : goodB H level l = true := by
  unfold goodB at hg ⊢
  rw [Bool.not_eq_true'] at hg ⊢
  rw [← Bool.not_eq_true] at hg ⊢
  exact fun hc => hg (cyc_mono (fun x y => fullE_mono h) hc)
theorem good_order (H : List Txn) (level : Int) (l : List Cho) : (orderT H.length (fullE H level l)).isSome = goodB H level l := orderT_cyc _ _
end Go.Inq

namespace Go.Proofs.YtjomijnbnbideaaGreatDoor
open Go.RowKit Go.Inq
set_option maxHeartbeats 8000000
attribute [local go_sem ↓] Go.wp_at_zero Go.wp_at_succ

theorem RGP.start {W1 W5 : World} {B n : Nat} {E : Edges} {A : Option Addr} {c : Nat} (h : RG W1 B n E (.slice A n c)) (hn : n ≤ 64) (e : W1.alloc (.cells #[.int .i64 n, .slice A n c] 124) = W5) : RGP W5 B W1.heap.size n E A c := by
  subst e
  refine ⟨Blk.new _ _ _, h.alloc _, fun g hg => ?_, hn⟩
  rcases h with ⟨h1, h2⟩ | ⟨g', cap, cur, h1, h2, h3, r⟩
  · subst hg; cases h2
  · subst hg
    simp only [Value.slice.injEq, Option.some.injEq] at h1
    obtain ⟨rfl, -⟩ := h1
    exact h3.lt
set_option maxRecDepth 100000 in
theorem runion12_any (n : Nat) (A : Option Addr) (c : Nat) (E : Edges) (A2 : Option Addr) (c2 : Nat) (F : Edges) (K : Nat → Prop) (w : World) (h : GrS w K n A c E) (h2 : GrS w K n A2 c2 F) (hK : ∀ b, K b → b < w.heap.size) :
    Calls Tryz.prog 123 #[.agg #[.int .i64 n, .slice A n c], .agg #[.int .i64 n, .slice A2 n c2]] w (OutR w n (orE E F)) := by
  have hn64 := h.n64
  go_enter Tryz.func123, Tryz.ntmps123
  go_upto_region 1 with fail
  obtain ⟨W0, hW0⟩ : ∃ W0, ((w.alloc (.cells #[.int .i64 n, .slice A n c] 124)).alloc (.cells #[.int .i64 n, .slice A2 n c2] 124)).alloc (.cells #[.int .i64 0, .slice none 0 0] 124) = W0 := ⟨_, rfl⟩
  rw [hW0]
  have hb := below_three hW0
  have k1 := Blk.three1 hW0
  have k2 := Blk.three2 hW0
  have k3 := Blk.three3 hW0
  have s0 := size_three hW0
  have hg := hide (h.keep (Agree.below hb hK) (fun b hb => hb))
  have hg2 := hide (h2.keep (Agree.below hb hK) (fun b hb => hb))
  have hKW : Hid (∀ b, K b → b < W0.heap.size) := hide fun b hb => by have := hK b hb; omega
  clear hW0 h h2
  have c0 := k1.cell 0
  have c1 := k1.cell 1
  simp only [List.getElem?_toArray, List.getElem?_cons_zero, List.getElem?_cons_succ] at c0 c1
  replace s0 := hide s0
  go_wp2_with fail
  refine (rnew12_any n hn64 W0).mono ?_
  rintro e w1 ⟨v, rfl, hR, hb1⟩
  clear c0 c1
  obtain ⟨Av, cv, rfl, -⟩ := hR.gr hn64 (K := fun _ => True) (fun _ _ _ => trivial)
  go_upto_region 2 with fail
  obtain ⟨W5, hW5⟩ : ∃ W5, w1.alloc (.cells #[.int .i64 n, .slice Av n cv] 124) = W5 := ⟨_, rfl⟩
  rw [hW5]
  have hP := RGP.start hR hn64 hW5
  have hs1 := hb1.size
  have hb5 := below_allocEq hb1 hW5 hs1
  clear hW5 hR hb1
  go_wp2_with fail
  go_loopw [6] (fun s6 wr => ∃ x : Nat, x ≤ n ∧ s6 = .int .i64 x ∧ RGP wr W0.heap.size w1.heap.size n (uptoE (orE E F) x 0) Av cv ∧ Below W0.heap.size W0 wr) (fun s6 _ => n - (intOf s6).toNat)
  case atStart => exact ⟨0, Nat.zero_le _, by go_num, by rw [uptoE_zero]; exact hP, hb5⟩
  case round =>
    obtain ⟨x, hx, rfl, hPr, hbr⟩ := hrel
    have hx1 : (0 : Int) ≤ (x : Int) := Int.natCast_nonneg _
    have c0 := hPr.c0
    have c1 := hPr.c1
    have k1r := k1.below hbr k1.lt
    have a0 := k1r.cell 0
    simp only [List.getElem?_toArray, List.getElem?_cons_zero, List.getElem?_cons_succ] at a0
    by_cases hlt : x < n
    · have hx2 : (x : Int) < (n : Int) := by omega
      go_wp2_with fail
      clear c0 c1 a0 k1r
      go_loopw [7] (fun s7 wq => ∃ y : Nat, y ≤ n ∧ s7 = .int .i64 y ∧ RGP wq W0.heap.size w1.heap.size n (uptoE (orE E F) x y) Av cv ∧ Below W0.heap.size W0 wq) (fun s7 _ => n - (intOf s7).toNat)
      case atStart => exact ⟨0, Nat.zero_le _, by go_num, hPr, hbr⟩
      case round =>
        obtain ⟨y, hy, rfl, hPq, hbq⟩ := hrel
        have hy1 : (0 : Int) ≤ (y : Int) := Int.natCast_nonneg _
        have k1q := k1.below hbq k1.lt
        have k2q := k2.below hbq k2.lt
        have a0 := k1q.cell 0
        have a1 := k1q.cell 1
        have b0 := k2q.cell 0
        have b1 := k2q.cell 1
        simp only [List.getElem?_toArray, List.getElem?_cons_zero, List.getElem?_cons_succ] at a0 a1 b0 b1
        by_cases hlq : y < n
        · have hy2 : (y : Int) < (n : Int) := by omega
          have hgq := hide (hg.out.keep (Agree.below hbq hKW.out) (fun b hb => hb))
          have hc1 := hide (rhas12_any n A c E x y K wr hgq.out (fun b hb => Nat.lt_of_lt_of_le (hKW.out b hb) hbq.size) hlt hlq)
          have hor : Hid (orE E F x y = (E x y || F x y)) := hide rfl
          have hst := hide (uptoE_step (E := orE E F) (x := x) (y := y))
          have hsk := hide (uptoE_skip (E := orE E F) (x := x) (y := y))
          go_wp2_with fail
          clear a0 b0
          refine hc1.out.mono ?_
          rintro e w2 ⟨rfl, hb2⟩
          have hbz := hbq.trans (hb2.mono hbq.size)
          have hPz := hPq.below hb2 (Nat.le_refl _)
          have k2z := k2.below hbz k2.lt
          have b0 := k2z.cell 0
          have b1 := k2z.cell 1
          simp only [List.getElem?_toArray, List.getElem?_cons_zero, List.getElem?_cons_succ] at b0 b1
          clear hc1
          have hgz := hide (hg2.out.keep (Agree.below hbz hKW.out) (fun b hb => hb))
          have hc2 := hide (rhas12_any n A2 c2 F x y K w2 hgz.out (fun b hb => Nat.lt_of_lt_of_le (hKW.out b hb) hbz.size) hlt hlq)
          generalize E x y = e1 at *
          generalize F x y = e2 at *
          go_wp2_with fail
          clear b0 b1 k2z
          refine hc2.out.mono ?_
          rintro e w3 ⟨rfl, hb3⟩
          have hb4 := hbz.trans (hb3.mono hbz.size)
          have hP4 := hPz.below hb3 (Nat.le_refl _)
          clear hc2 hbz hPz hgz hgq hbq hPq hb3 hb2
          cases e1 <;> cases e2
          · have hE2 := hide (hsk.out (by rw [hor.out]; rfl))
            clear hst hsk hor hPr
            go_wp2
            go_roundw
            case rel => exact ⟨y + 1, by omega, by go_num, by rw [hE2.out]; exact hP4, hb4⟩
            case measure => simp [intOf]; omega
          · have hE2 := hide (hst.out (by rw [hor.out]; rfl))
            obtain ⟨g, rfl, hX⟩ := hP4.at_ hlt
            have hP5 := hide (hX.add hlt hlq)
            have hb5 := hide (hb4.setCell (p := ⟨g, x, none⟩) hX.B (.int .u64 (withB (setB ((uptoE (orE E F) x y) x) n) (y : Int) : Nat)))
            obtain ⟨-, c0, c1, d0, df, gp, gl, -, h64⟩ := hX
            clear hst hsk hor hPr hP4 hb4
            generalize setB ((uptoE (orE E F) x y) x) n = s at *
            go_upto_region 11 with fail
            refine wp_region_still_tail 11 (by kernel_rfl) (by kernel_rfl) ?_
            simp only [List.take_succ_cons, List.take_zero, List.drop_succ_cons, List.drop_zero]
            repeat still_step
            still_call ((rwith10_any _ h64 _ _).mono fun _ _ h => ⟨h.1, h.2.symm⟩)
            repeat still_step
            refine wpStill_nil ?_
            change wpList _ _ _ _ _ w3.drew
            go_wp2
            go_roundw
            case rel => exact ⟨y + 1, by omega, by go_num, by rw [hE2.out]; exact hP5.out.drew, hb5.out.trans ⟨rfl, rfl, rfl, Nat.le_refl _, fun _ _ => rfl⟩⟩
            case measure => simp [intOf]; omega
          · have hE2 := hide (hst.out (by rw [hor.out]; rfl))
            obtain ⟨g, rfl, hX⟩ := hP4.at_ hlt
            have hP5 := hide (hX.add hlt hlq)
            have hb5 := hide (hb4.setCell (p := ⟨g, x, none⟩) hX.B (.int .u64 (withB (setB ((uptoE (orE E F) x y) x) n) (y : Int) : Nat)))
            obtain ⟨-, c0, c1, d0, df, gp, gl, -, h64⟩ := hX
            clear hst hsk hor hPr hP4 hb4
            generalize setB ((uptoE (orE E F) x y) x) n = s at *
            go_upto_region 11 with fail
            refine wp_region_still_tail 11 (by kernel_rfl) (by kernel_rfl) ?_
            simp only [List.take_succ_cons, List.take_zero, List.drop_succ_cons, List.drop_zero]
            repeat still_step
            still_call ((rwith10_any _ h64 _ _).mono fun _ _ h => ⟨h.1, h.2.symm⟩)
            repeat still_step
            refine wpStill_nil ?_
            change wpList _ _ _ _ _ w3.drew
            go_wp2
            go_roundw
            case rel => exact ⟨y + 1, by omega, by go_num, by rw [hE2.out]; exact hP5.out.drew, hb5.out.trans ⟨rfl, rfl, rfl, Nat.le_refl _, fun _ _ => rfl⟩⟩
            case measure => simp [intOf]; omega
          · have hE2 := hide (hst.out (by rw [hor.out]; rfl))
            obtain ⟨g, rfl, hX⟩ := hP4.at_ hlt
            have hP5 := hide (hX.add hlt hlq)
            have hb5 := hide (hb4.setCell (p := ⟨g, x, none⟩) hX.B (.int .u64 (withB (setB ((uptoE (orE E F) x y) x) n) (y : Int) : Nat)))
            obtain ⟨-, c0, c1, d0, df, gp, gl, -, h64⟩ := hX
            clear hst hsk hor hPr hP4 hb4
            generalize setB ((uptoE (orE E F) x y) x) n = s at *
            go_upto_region 11 with fail
            refine wp_region_still_tail 11 (by kernel_rfl) (by kernel_rfl) ?_
            simp only [List.take_succ_cons, List.take_zero, List.drop_succ_cons, List.drop_zero]
            repeat still_step
            still_call ((rwith10_any _ h64 _ _).mono fun _ _ h => ⟨h.1, h.2.symm⟩)
            repeat still_step
            refine wpStill_nil ?_
            change wpList _ _ _ _ _ w3.drew
            go_wp2
            go_roundw
            case rel => exact ⟨y + 1, by omega, by go_num, by rw [hE2.out]; exact hP5.out.drew, hb5.out.trans ⟨rfl, rfl, rfl, Nat.le_refl _, fun _ _ => rfl⟩⟩
            case measure => simp [intOf]; omega
        · obtain rfl : y = n := by omega
          have hP4 := hide (hPq.congr (F := uptoE (orE E F) (x + 1) 0) fun a b _ hb => uptoE_row hb)
          clear hPq hPr
          go_wp2
          go_roundw
          case rel => exact ⟨x + 1, by omega, by go_num, hP4.out, hbq⟩
          case measure => simp [intOf]; omega
    · obtain rfl : x = n := by omega
      have hP4 := hPr.congr (F := orE E F) fun a b ha _ => uptoE_all ha
      have k3r := k3.below hbr k3.lt
      have f0 := k3r.frozen 0
      have f1 := k3r.frozen 1
      have e0 := k3r.cell 0
      have e1 := k3r.cell 1
      have hs0 := s0.out
      have hs3 : w.heap.size + 1 + 1 < W0.heap.size := k3.lt
      have hR := hide (((hP4.rg.far (p := ⟨w.heap.size + 1 + 1, 0, none⟩) hs3 (.int .i64 x)).far (p := ⟨w.heap.size + 1 + 1, 1, none⟩) hs3 (.slice Av x cv)).base (B' := w.heap.size) (by omega))
      have hz := hide (((hb.trans (hbr.mono hb.size)).setCell (p := ⟨w.heap.size + 1 + 1, 0, none⟩) (by simp; omega) (.int .i64 x)).setCell (p := ⟨w.heap.size + 1 + 1, 1, none⟩) (by simp; omega) (.slice Av x cv))
      have hq := (k3r.set_ 0 (.int .i64 x)).set_ 1 (.slice Av x cv)
      simp only [List.setIfInBounds_toArray, List.set_cons_zero, List.set_cons_succ] at hq
      have y0 := hq.cell 0
      have y1 := hq.cell 1
      simp only [List.getElem?_toArray, List.getElem?_cons_zero, List.getElem?_cons_succ] at y0 y1 e0 e1
      clear hq hs0 hs3
      go_wp2_with fail
      exact bodyPost_ret (v := .agg #[.int .i64 x, .slice Av x cv]) (by simp [results, Tryz.results123, go_sem, y0, y1]) rfl ⟨_, rfl, hR.out, hz.out⟩
end Go.Proofs.YtjomijnbnbideaaGreatDoor

namespace Go.Proofs.YtjomijnbnbideaaGreatDoor
open Go.RowKit Go.Inq
set_option maxHeartbeats 8000000
attribute [local go_sem ↓] Go.wp_at_zero Go.wp_at_succ

theorem upto_so (H : List Txn) (a k : Nat) (hk : k ≤ a + 1) : uptoE (soE H) a k = uptoE (soE H) a 0 := by
  induction k with
  | zero => rfl
  | succ k ih =>
    rw [uptoE_skip, ih (by omega)]
    unfold soE
    rw [decide_eq_false (by omega)]
    rfl
theorem soE_at {H : List Txn} {a b : Nat} (hab : a < b) (hb : b < H.length) : soE H a b = decide ((H[a]'(by omega)).sess = H[b].sess) := by
  unfold soE
  rw [decide_eq_true hab, txnAt_of (by omega), txnAt_of hb]
  rfl
set_option maxRecDepth 100000 in
theorem rso17_any (A : Option Addr) (c : Nat) (H : List Txn) (w : World) (h : TxnS w (Old w) (.slice A H.length c) H) (hr : rightH H = true) :
    Calls Tryz.prog 182 #[.agg #[.slice A H.length c]] w (OutR w H.length (soE H)) := by
  have hn64 : H.length ≤ 64 := by have := ((rightH_iff H).1 hr).1; omega
  clear hr
  go_enter Tryz.func182, Tryz.ntmps182
  go_upto_region 1 with fail
  obtain ⟨W0, hW0⟩ : ∃ W0, (w.alloc (.cells #[.slice A H.length c] 24)).alloc (.cells #[.int .i64 0, .slice none 0 0] 124) = W0 := ⟨_, rfl⟩
  rw [hW0]
  have hb := below_two hW0
  have k1 := Blk.two1 hW0
  have k3 := Blk.two2 hW0
  have s0 := size_two hW0
  have hT := hide (h.below hb)
  clear hW0 h
  have c0 := k1.cell 0
  simp only [List.getElem?_toArray, List.getElem?_cons_zero, List.getElem?_cons_succ] at c0
  replace s0 := hide s0
  go_wp2_with fail
  refine (rnew12_any H.length hn64 W0).mono ?_
  rintro e w1 ⟨v, rfl, hR, hb1⟩
  clear c0
  obtain ⟨Av, cv, rfl, -⟩ := hR.gr hn64 (K := fun _ => True) (fun _ _ _ => trivial)
  go_upto_region 2 with fail
  obtain ⟨W5, hW5⟩ : ∃ W5, w1.alloc (.cells #[.int .i64 (H.length : Int), .slice Av H.length cv] 124) = W5 := ⟨_, rfl⟩
  rw [hW5]
  have hP := RGP.start hR hn64 hW5
  have hs1 := hb1.size
  have hb5 := below_allocEq hb1 hW5 hs1
  clear hW5 hR hb1
  go_wp2_with fail
  go_loopw [4] (fun s4 wr => ∃ x : Nat, x ≤ H.length ∧ s4 = .int .i64 x ∧ RGP wr W0.heap.size w1.heap.size H.length (uptoE (soE H) x 0) Av cv ∧ Below W0.heap.size W0 wr) (fun s4 _ => H.length - (intOf s4).toNat)
  case atStart => exact ⟨0, Nat.zero_le _, by go_num, by rw [uptoE_zero]; exact hP, hb5⟩
  case round =>
    obtain ⟨x, hx, rfl, hPr, hbr⟩ := hrel
    have hx1 : (0 : Int) ≤ (x : Int) := Int.natCast_nonneg _
    have c0 := hPr.c0
    have c1 := hPr.c1
    by_cases hlt : x < H.length
    · have hx2 : (x : Int) < (H.length : Int) := by omega
      go_wp2_with fail
      clear c0 c1
      go_loopw [5] (fun s5 wq => ∃ y : Nat, x + 1 ≤ y ∧ y ≤ H.length ∧ s5 = .int .i64 y ∧ RGP wq W0.heap.size w1.heap.size H.length (uptoE (soE H) x y) Av cv ∧ Below W0.heap.size W0 wq) (fun s5 _ => H.length - (intOf s5).toNat)
      case atStart => exact ⟨x + 1, Nat.le_refl _, hlt, by go_num, by rw [upto_so H x (x + 1) (Nat.le_refl _)]; exact hPr, hbr⟩
      case round =>
        obtain ⟨y, hxy, hy, rfl, hP4, hb4⟩ := hrel
        have hy1 : (0 : Int) ≤ (y : Int) := Int.natCast_nonneg _
        have c0 := hP4.c0
        have c1 := hP4.c1
        by_cases hlq : y < H.length
        · have hy2 : (y : Int) < (H.length : Int) := by omega
          have hst := hide (uptoE_step (E := soE H) (x := x) (y := y))
          have hsk := hide (uptoE_skip (E := soE H) (x := x) (y := y))
          have hat := hide (soE_at (H := H) (a := x) (b := y) (by omega) hlq)
          have hTq := hT.out.below hb4
          have k1q := k1.below hb4 k1.lt
          have a0 := k1q.cell 0
          obtain ⟨bt, ot, _, _, _, _, e, -, d1, -⟩ := hTq.at_ hlt
          obtain ⟨bt', ot', _, _, _, _, e', -, d2, -⟩ := hTq.at_ hlq
          subst e
          injection e' with e'
          injection e' with e1 e2
          subst e1 e2
          generalize H[x].sess = p at *
          generalize H[y].sess = q at *
          generalize soE H x y = sb at *
          simp only [List.getElem?_toArray, List.getElem?_cons_zero, List.getElem?_cons_succ] at a0
          clear hTq k1q hPr hbr
          by_cases hpq : p = q
          · have hpb : (p == q) = true := by simpa using hpq
            have hE2 := hide (hst.out (by rw [hat.out]; simpa using hpq))
            go_wp2_with fail
            go_region
            clear a0 d1 d2
            replace hP4 := hP4.drew
            replace hb4 := below_drew hb4
            clear c0 c1
            generalize wr.drew = w3 at *
            obtain ⟨g, rfl, hX⟩ := hP4.at_ hlt
            have hP5 := hide (hX.add (y := y) hlt hlq).drew
            have hb5 := hide (below_drew (hb4.setCell (p := ⟨g, x, none⟩) hX.B (.int .u64 (withB (setB ((uptoE (soE H) x y) x) H.length) (y : Int) : Nat))))
            obtain ⟨-, c0, c1, d0, df, gp, gl, -, h64⟩ := hX
            clear hst hsk hP4 hb4
            generalize setB ((uptoE (soE H) x y) x) H.length = s at *
            go_upto_region 9 with fail
            refine wp_region_still_tail 11 (by kernel_rfl) (by kernel_rfl) ?_
            simp only [List.take_succ_cons, List.take_zero, List.drop_succ_cons, List.drop_zero]
            repeat still_step
            still_call ((rwith10_any _ h64 _ _).mono fun _ _ h => ⟨h.1, h.2.symm⟩)
            repeat still_step
            refine wpStill_nil ?_
            change wpList _ _ _ _ _ (w3).drew
            go_wp2
            go_roundw
            case rel => exact ⟨y + 1, by omega, by omega, by go_num, by rw [hE2.out]; exact hP5.out, hb5.out⟩
            case measure => simp [intOf]; omega
          · have hpb : (p == q) = false := by simpa using hpq
            have hE2 := hide (hsk.out (by rw [hat.out]; simpa using hpq))
            clear hpq
            go_wp2_with fail
            go_region
            clear a0 d1 d2
            replace hP4 := hP4.drew
            replace hb4 := below_drew hb4
            go_wp2
            go_roundw
            case rel => exact ⟨y + 1, by omega, by omega, by go_num, by rw [hE2.out]; exact hP4, hb4⟩
            case measure => simp [intOf]; omega
        · obtain rfl : y = H.length := by omega
          have hP4 := hide (hP4.congr (F := uptoE (soE H) (x + 1) 0) fun a b _ hb => uptoE_row hb)
          clear hPr
          go_wp2
          go_roundw
          case rel => exact ⟨x + 1, by omega, by go_num, hP4.out, hb4⟩
          case measure => simp [intOf]; omega
    · obtain rfl : x = H.length := by omega
      have hP4 := hPr.congr (F := soE H) fun a b ha _ => uptoE_all ha
      have k3r := k3.below hbr k3.lt
      have f0 := k3r.frozen 0
      have f1 := k3r.frozen 1
      have e0 := k3r.cell 0
      have e1 := k3r.cell 1
      have hs0 := s0.out
      have hs3 : w.heap.size + 1 < W0.heap.size := k3.lt
      have hR := hide (((hP4.rg.far (p := ⟨w.heap.size + 1, 0, none⟩) hs3 (.int .i64 H.length)).far (p := ⟨w.heap.size + 1, 1, none⟩) hs3 (.slice Av H.length cv)).base (B' := w.heap.size) (by omega))
      have hz := hide (((hb.trans (hbr.mono hb.size)).setCell (p := ⟨w.heap.size + 1, 0, none⟩) (by simp; try omega) (.int .i64 H.length)).setCell (p := ⟨w.heap.size + 1, 1, none⟩) (by simp; try omega) (.slice Av H.length cv))
      have hq := (k3r.set_ 0 (.int .i64 H.length)).set_ 1 (.slice Av H.length cv)
      simp only [List.setIfInBounds_toArray, List.set_cons_zero, List.set_cons_succ] at hq
      have y0 := hq.cell 0
      have y1 := hq.cell 1
      simp only [List.getElem?_toArray, List.getElem?_cons_zero, List.getElem?_cons_succ] at y0 y1 e0 e1
      clear hq hs0 hs3
      go_wp2_with fail
      exact bodyPost_ret (v := .agg #[.int .i64 H.length, .slice Av H.length cv]) (by simp [results, Tryz.results182, go_sem, y0, y1]) rfl ⟨_, rfl, hR.out, hz.out⟩
end Go.Proofs.YtjomijnbnbideaaGreatDoor
