/-
  Walks: layer 8: few transactions.
-/
import Derived.Test.YtjomijnbnbideaaGreatDoorProg
import Derived.Test.YtjomijnbnbideaaGreatDoorRows
import Derived.Test.YtjomijnbnbideaaGreatDoorCards
import Derived.Test.YtjomijnbnbideaaGreatDoorTie
import Derived.ProofKit
import Derived.OpenShut
import Derived.LaidMore
import Derived.Lay
import Derived.SevenTiedAt
import Derived.Stop.Joined
import Derived.HandedShaped
import Derived.SliceStrings
import Derived.Deep.Slices
import Derived.Below
import Derived.Carry
import Derived.Lib.LaidU8
import Derived.Deep.Fields
import Derived.ChangeSame
import Derived.Lib.SmallJoins
import Derived.Deep.Strs
import Derived.StillTailTactics
import Derived.Test.YtjomijnbnbideaaGreatDoorT04
import Derived.Test.YtjomijnbnbideaaGreatDoorT02
import Derived.Test.YtjomijnbnbideaaGreatDoorT26
import Derived.Test.YtjomijnbnbideaaGreatDoorT14
set_option linter.unusedVariables false
set_option linter.unusedSimpArgs false
namespace Go.Proofs.YtjomijnbnbideaaGreatDoor
open Go.RowKit Go.Inq
set_option maxHeartbeats 2000000
attribute [local go_sem ↓] Go.wp_at_zero Go.wp_at_succ

/-- At most N transactions, with few reads and writes. -/
def fewN (N : Nat) (l : List Txn) : Bool := decide (l.length ≤ N) && l.all fun t => decide (t.writes.length ≤ 20) && decide (t.reads.length ≤ 20)
def fewH (l : List Txn) : Bool := fewN 40 l
theorem fewN_len {N : Nat} {l : List Txn} (h : fewN N l = true) : l.length ≤ N := by
  unfold fewN at h
  rw [Bool.and_eq_true] at h
  simpa using h.1
theorem fewN_small {N : Nat} (hN : N ≤ 40) {l : List Txn} (h : fewN N l = true) : SmallH l := by
  unfold fewN at h
  rw [Bool.and_eq_true, List.all_eq_true] at h
  have h1 : l.length ≤ N := by simpa using h.1
  refine ⟨by omega, fun t ht => ?_⟩
  have := h.2 t ht
  simp at this
  omega
theorem fewH_small {l : List Txn} (h : fewH l = true) : SmallH l := fewN_small (Nat.le_refl _) h
theorem fewN_bad {N : Nat} {l : List Txn} {i : Nat} (hi : i < l.length) (h : 20 < l[i].writes.length ∨ 20 < l[i].reads.length) : fewN N l = false := by
  rw [← Bool.not_eq_true]
  intro g
  unfold fewN at g
  rw [Bool.and_eq_true, List.all_eq_true] at g
  have := g.2 _ (List.getElem_mem hi)
  simp at this
  omega
theorem fewN_many {N : Nat} {l : List Txn} (h : N < l.length) : fewN N l = false := by
  unfold fewN; rw [show decide (l.length ≤ N) = false by simpa using h]; rfl
theorem fewN_good {N : Nat} {l : List Txn} (h : l.length ≤ N) (hall : ∀ i (hi : i < l.length), l[i].writes.length ≤ 20 ∧ l[i].reads.length ≤ 20) : fewN N l = true := by
  unfold fewN
  rw [Bool.and_eq_true, List.all_eq_true]
  refine ⟨by simpa using h, fun t ht => ?_⟩
  obtain ⟨i, hi, rfl⟩ := List.getElem_of_mem ht
  have := hall i hi
  simp
  omega
set_option maxRecDepth 100000 in
theorem few8n_any (N : Nat) (A : Option Addr) (c : Nat) (H : List Txn) (w : World) (h : TxnS w (Old w) (.slice A H.length c) H) (hn : H.length ≤ maxLen) (hns : ∀ t ∈ H, t.writes.length ≤ maxLen ∧ t.reads.length ≤ maxLen) :
    Calls Tryz.prog 21 #[.agg #[.slice A H.length c], .int .i64 (N : Int)] w fun e w' => e = .returned (.bool (fewN N H)) ∧ Below w.heap.size w w' := by
  unfold maxLen at hn hns
  have hA : Below w.heap.size w (w.alloc (.cells #[.slice A H.length c] 24)) := (Below.refl _ _).alloc (Nat.le_refl _) _
  have kh : Blk (w.alloc (.cells #[.slice A H.length c] 24)) w.heap.size 24 #[.slice A H.length c] := Blk.new _ _ _
  have h1 := TxnS.below h hA
  have y0 := kh.cell 0
  simp only [List.getElem?_toArray, List.getElem?_cons_zero] at y0
  have hl1 : (0 : Int) ≤ (H.length : Int) := Int.natCast_nonneg _
  replace hns := hide hns
  by_cases hm : N < H.length
  · have hr := hide (fewN_many hm)
    have hmb : decide ((H.length : Int) > (N : Int)) = true := by simp; omega
    have hmb2 : decide (N < H.length) = true := by simp; omega
    clear hm
    go_enter Tryz.func21, Tryz.ntmps21
    go_wp2
    go_ret
    exact ⟨by rw [hr.out]; rfl, hA⟩
  · have hmb : decide ((H.length : Int) > (N : Int)) = false := by simp; omega
    have hmb2 : decide (N < H.length) = false := by simp; omega
    have hbad := hide (fun i => fewN_bad (N := N) (l := H) (i := i))
    have hgood := hide (fewN_good (N := N) (l := H) (by omega))
    go_enter Tryz.func21, Tryz.ntmps21
    go_wp2_with fail
    generalize w.alloc (.cells #[.slice A H.length c] 24) = W at *
    go_loop [5] (fun s5 => ∃ i : Nat, i ≤ H.length ∧ s5 = .int .i64 i ∧ Hid (∀ j (hj : j < H.length), j < i → H[j].writes.length ≤ 20 ∧ H[j].reads.length ≤ 20)) (fun s5 => H.length - (intOf s5).toNat)
    case atStart => exact ⟨0, Nat.zero_le _, by go_num, fun j hj h => absurd h (by omega)⟩
    case round =>
      obtain ⟨i, hi, rfl, hall⟩ := hrel
      have hi1 : (0 : Int) ≤ (i : Int) := Int.natCast_nonneg _
      by_cases hlt : i < H.length
      · have hi2 : (i : Int) < (H.length : Int) := by omega
        obtain ⟨b, off, Aw, cw, Ar, cr, rfl, hbK, d0, d1, d2, hws, hrs⟩ := TxnS.at_ h1 hlt
        have hb := hide (hbad.out i hlt)
        have hsm := hns.out _ (List.getElem_mem hlt)
        have hst : Hid (H[i].writes.length ≤ 20 ∧ H[i].reads.length ≤ 20 → ∀ j (hj : j < H.length), j < i + 1 → H[j].writes.length ≤ 20 ∧ H[j].reads.length ≤ 20) := fun g j hj hji => by
          by_cases e : j = i
          · subst e; exact g
          · exact hall.out j hj (by omega)
        clear hall hws hrs
        generalize H[i] = t at *
        obtain ⟨ts, ws, rs⟩ := t
        dsimp only at *
        by_cases g1 : 20 < ws.length
        · have g1b : decide ((ws.length : Int) > 20) = true := by simp; omega
          have hr := hide (hb.out (.inl g1))
          clear g1 hb hst
          go_wp2
          go_ret
          exact ⟨by rw [hr.out]; rfl, hA⟩
        · have g1b : decide ((ws.length : Int) > 20) = false := by simp; omega
          by_cases g2 : 20 < rs.length
          · have g2b : decide ((rs.length : Int) > 20) = true := by simp; omega
            have hr := hide (hb.out (.inr g2))
            clear g2 hb hst
            go_wp2
            go_ret
            exact ⟨by rw [hr.out]; rfl, hA⟩
          · have g2b : decide ((rs.length : Int) > 20) = false := by simp; omega
            have hr := hide (hst.out ⟨by omega, by omega⟩)
            clear hb hst
            go_wp2
            go_round
            case rel => exact ⟨i + 1, by omega, by go_num, hr⟩
            case measure => simp [intOf]; omega
      · have hr := hide (hgood.out fun j hj => hall.out j hj (by omega))
        go_wp2
        go_ret
        exact ⟨by rw [hr.out]; rfl, hA⟩
theorem few8_any (A : Option Addr) (c : Nat) (H : List Txn) (w : World) (h : TxnS w (Old w) (.slice A H.length c) H) (hn : H.length ≤ maxLen) (hns : ∀ t ∈ H, t.writes.length ≤ maxLen ∧ t.reads.length ≤ maxLen) :
    Calls Tryz.prog 21 #[.agg #[.slice A H.length c], .int .i64 40] w fun e w' => e = .returned (.bool (fewH H)) ∧ Below w.heap.size w w' := few8n_any 40 A c H w h hn hns
end Go.Proofs.YtjomijnbnbideaaGreatDoor

namespace Go.Proofs.YtjomijnbnbideaaGreatDoor
open Go.RowKit Go.Inq
set_option maxHeartbeats 8000000
attribute [local go_sem ↓] Go.wp_at_zero Go.wp_at_succ

/-- What screen.Step says of any history, at any level. -/
theorem step28_any (A : Option Addr) (c : Nat) (H : List Txn) (level : Int) (w : World) (h : TxnS w (Old w) (.slice A H.length c) H) (hn : SmallH H) (hTB : TabB w) :
    Calls Tryz.prog 24 #[.agg #[.slice A H.length c], .int .i64 level] w (ScrOut w (scrH H level)) := by
  cases hb : rightC H [] && (decide (level = 0) || decide (level = 1)) with
  | false => exact step28_bad A c H level w h hn hb
  | true =>
    rw [Bool.and_eq_true, Bool.or_eq_true, decide_eq_true_eq, decide_eq_true_eq] at hb
    by_cases hf : findL H.length (fullE H level []) = []
    · by_cases hp : pairsL H = []
      · obtain ⟨O, hO⟩ := Option.isSome_iff_exists.1 (show (orderT H.length (fullE H level [])).isSome = true by rw [orderT_cyc, findL_nil.1 hf]; rfl)
        exact step28_yes A c H level w h hn hb.1 hb.2 hf hp O hO hTB
      · exact step28_stuck A c H level w h hn hb.1 hb.2 hf hp hTB
    · exact step28_no A c H level w h hn hb.1 hb.2 hf hTB
theorem OwnX.sl {w : World} {base : Nat} {v : Value} {l : List (Cho × Option Nat)} (h : OwnX w base v l) {K : Nat → Prop} (hK : ∀ g, base ≤ g → g < w.heap.size → K g) : SlR 7 (Flat encX) w K v l := SlR.of_flat h rfl (fun _ => rfl) hK
theorem OwnX.at_ {w : World} {base : Nat} {A : Option Addr} {n c : Nat} {l : List (Cho × Option Nat)} (h : OwnX w base (.slice A n c) l) {i : Nat} (hi : i < l.length) :
    ∃ b off, A = some ⟨b, off, none⟩ ∧ w.cell? ⟨b, off + i * 7, none⟩ = some (.int .i64 l[i].1.key) ∧ w.cell? ⟨b, off + i * 7 + 1, none⟩ = some (.int .i64 l[i].1.a) ∧ w.cell? ⟨b, off + i * 7 + 2, none⟩ = some (.int .i64 l[i].1.b) ∧
      w.cell? ⟨b, off + i * 7 + 3, none⟩ = some (.int .i64 (mkF l[i].1 l[i].2).kind) ∧ w.cell? ⟨b, off + i * 7 + 4, none⟩ = some (.int .i64 (mkF l[i].1 l[i].2).i) ∧ w.cell? ⟨b, off + i * 7 + 5, none⟩ = some (.int .i64 0) ∧ w.cell? ⟨b, off + i * 7 + 6, none⟩ = some (.slice none 0 0) := by
  obtain ⟨b, off, cs, hA, -, _, hR, hc⟩ := SlR.at_ (h.sl (K := fun _ => True) fun _ _ _ => trivial) hi
  unfold Flat at hR
  subst hR
  exact ⟨b, off, hA, hc 0 _ rfl, hc 1 _ rfl, hc 2 _ rfl, hc 3 _ rfl, hc 4 _ rfl, hc 5 _ rfl, hc 6 _ rfl⟩
/-- What a strategy said, as it lies in memory. -/
def ScrV (w : World) (base : Nat) (v : Value) (r : Scr) : Prop := ∃ vo vt vf, v = .agg #[.int .i64 r.said, vo, vt, vf] ∧ OwnI w base vo (intsN r.order) ∧ TreeX w base vt r.tree ∧ OwnX w base vf r.facts
theorem TreeX.below {w w' : World} {base : Nat} {v : Value} {o : Option (List Nat)} (h : TreeX w base v o) (hb : Below w.heap.size w w') : TreeX w' base v o := by
  cases o with
  | none => exact h
  | some l =>
    obtain ⟨g, vc, h1, h2, h3, h4⟩ := h
    exact ⟨g, vc, h1, h2, h3.below hb h3.lt, own_below h4 hb (Nat.le_refl _)⟩
theorem TreeX.type {w : World} {base : Nat} {v : Value} {o : Option (List Nat)} {g i : Nat} {cs : Array Value} {u : Value} (h : TreeX w base v o) (hk : Blk w g 35 cs) : TreeX (w.setCell ⟨g, i, none⟩ u) base v o := by
  cases o with
  | none => exact h
  | some l =>
    obtain ⟨g2, vc, h1, h2, h3, h4⟩ := h
    exact ⟨g2, vc, h1, h2, h3.far (p := ⟨g, i, none⟩) (blk_type h3 hk (by decide)) _, h4.kept (grown_set g i u) (own_type h4 hk (by decide))⟩
theorem ScrV.below {w w' : World} {base : Nat} {v : Value} {r : Scr} (h : ScrV w base v r) (hb : Below w.heap.size w w') : ScrV w' base v r := by
  obtain ⟨vo, vt, vf, h1, h2, h3, h4⟩ := h
  exact ⟨vo, vt, vf, h1, own_below h2 hb (Nat.le_refl _), h3.below hb, own_below h4 hb (Nat.le_refl _)⟩
theorem ScrV.type {w : World} {base : Nat} {v : Value} {r : Scr} {g i : Nat} {cs : Array Value} {u : Value} (h : ScrV w base v r) (hk : Blk w g 35 cs) : ScrV (w.setCell ⟨g, i, none⟩ u) base v r := by
  obtain ⟨vo, vt, vf, h1, h2, h3, h4⟩ := h
  exact ⟨vo, vt, vf, h1, h2.kept (grown_set g i u) (own_type h2 hk (by decide)), h3.type hk, h4.kept (grown_set g i u) (own_type h4 hk (by decide))⟩
/-- A variable of a law's own that holds what a strategy said. -/
def ScrB (w : World) (base g : Nat) (r : Scr) : Prop := ∃ vo vt vf, Blk w g 35 #[.int .i64 r.said, vo, vt, vf] ∧ OwnI w base vo (intsN r.order) ∧ TreeX w base vt r.tree ∧ OwnX w base vf r.facts
theorem ScrB.below {w w' : World} {base g : Nat} {r : Scr} (h : ScrB w base g r) (hb : Below w.heap.size w w') : ScrB w' base g r := by
  obtain ⟨vo, vt, vf, h1, h2, h3, h4⟩ := h
  exact ⟨vo, vt, vf, h1.below hb h1.lt, own_below h2 hb (Nat.le_refl _), h3.below hb, own_below h4 hb (Nat.le_refl _)⟩
theorem ScrB.lt {w : World} {base g : Nat} {r : Scr} (h : ScrB w base g r) : g < w.heap.size := by obtain ⟨vo, vt, vf, h1, -⟩ := h; exact h1.lt
theorem TxnS.two {W : World} {K : Nat → Prop} {g : Nat} {t0 t1 : Txn} {vw0 vr0 vw1 vr1 : Value} (h : Blk W g 101 #[.int .i64 t0.sess, vw0, vr0, .int .i64 t1.sess, vw1, vr1]) (h0 : IntS W K vw0 t0.writes) (h1 : ItS W K vr0 t0.reads) (h2 : IntS W K vw1 t1.writes) (h3 : ItS W K vr1 t1.reads) (hK : K g) :
    TxnS W K (.slice (some ⟨g, 0, none⟩) 2 2) [t0, t1] :=
  slr_blk (l := [t0, t1]) [[.int .i64 t0.sess, vw0, vr0], [.int .i64 t1.sess, vw1, vr1]] h rfl (fun i cs x q1 q2 => by
    match i with
    | 0 => simp at q1 q2; subst q1 q2; exact ⟨rfl, _, _, rfl, h0, h1⟩
    | 1 => simp at q1 q2; subst q1 q2; exact ⟨rfl, _, _, rfl, h2, h3⟩
    | i + 2 => simp at q1) hK (by simp)
def exA : List Txn := [⟨0, [2], []⟩, ⟨0, [2], []⟩]
def exB : List Txn := [⟨0, [], []⟩]
def exC : List Txn := [⟨0, [], [⟨1, 1⟩]⟩, ⟨0, [1], []⟩]
theorem exA_pairs : pairsL exA = [⟨2, 0, 1⟩] := by
  unfold pairsL
  rw [keysL_16 (by decide)]
  kernel_rfl
theorem ex28_a : scrH exA 0 = ⟨3, [], none, [(⟨2, 0, 1⟩, none)]⟩ := by
  unfold scrH
  rw [exA_pairs]
  kernel_rfl
theorem ex28_b : scrH exB 1 = ⟨1, [0], none, []⟩ := by kernel_rfl
theorem ex28_c : scrH exC 1 = ⟨2, [], some [0, 1], []⟩ := by kernel_rfl
def treeN : Option (List Nat) → Nat
  | none => 0
  | some _ => 1
theorem TreeX.form {w : World} {base : Nat} {v : Value} {o : Option (List Nat)} (h : TreeX w base v o) : ∃ A c, v = .slice A (treeN o) c := by
  cases o with
  | none => exact ⟨_, _, h⟩
  | some l => obtain ⟨g, vc, q1, q2, -⟩ := h; exact ⟨_, _, q2⟩
theorem ScrOut.v {w W' : World} {r : Scr} {e : Ending} (h : ScrOut w r e W') : ∃ Ao no co At nt ct Af nf cf, no = r.order.length ∧ nt = treeN r.tree ∧ nf = r.facts.length ∧ e = .returned (.agg #[.int .i64 r.said, .slice Ao no co, .slice At nt ct, .slice Af nf cf]) ∧ ScrV W' 0 (.agg #[.int .i64 r.said, .slice Ao no co, .slice At nt ct, .slice Af nf cf]) r ∧ Below w.heap.size w W' := by
  obtain ⟨vo, vt, vf, h1, h2, h3, h4, h5⟩ := h
  obtain ⟨Ao, co, rfl⟩ := own_slice h2
  obtain ⟨At, ct, rfl⟩ := h3.form
  obtain ⟨Af, cf, rfl⟩ := own_slice h4
  rw [intsN_len] at h1
  refine ⟨Ao, _, co, At, _, ct, Af, _, cf, rfl, rfl, rfl, h1, ⟨_, _, _, rfl, ?_, ?_, own_base h4 (Nat.zero_le _)⟩, h5⟩
  · rw [← intsN_len]; exact own_base h2 (Nat.zero_le _)
  · cases hr : r.tree with
    | none => rw [hr] at h3; exact h3
    | some l =>
      rw [hr] at h3
      obtain ⟨g, vc, q1, q2, q3, q4⟩ := h3
      exact ⟨g, vc, Nat.zero_le _, q2, q3, own_base q4 (Nat.zero_le _)⟩
/-- A variable that was made and set. -/
theorem ScrB.made {w : World} {r : Scr} {vo vt vf : Value} (h : ScrV w 0 (.agg #[.int .i64 r.said, vo, vt, vf]) r) :
    ∃ X, w.alloc (.cells #[.int .i64 r.said, vo, vt, vf] 35) = X ∧ ScrB X 0 w.heap.size r ∧ Below w.heap.size w X := by
  have hb := (Below.refl w.heap.size w).alloc (Nat.le_refl _) (.cells #[.int .i64 r.said, vo, vt, vf] 35)
  obtain ⟨vo', vt', vf', h1, h2, h3, h4⟩ := h.below hb
  simp only [Value.agg.injEq, Array.mk.injEq, List.cons.injEq, and_true, true_and] at h1
  obtain ⟨rfl, rfl, rfl⟩ := h1
  exact ⟨_, rfl, ⟨_, _, _, Blk.new _ _ _, h2, h3, h4⟩, hb⟩
set_option maxRecDepth 100000 in
theorem awake28_any (w : World) (hTB : TabB w) : Calls Tryz.prog 20 #[] w fun e w' => e = .returned (.bool true) ∧ Below w.heap.size w w' := by
  have hE1 := hide ex28_a
  have hE2 := hide ex28_b
  have hE3 := hide ex28_c
  go_enter Tryz.func20, Tryz.ntmps20
  go_wp2_with fail
  obtain ⟨W1, hW1⟩ : ∃ W1, w.alloc (.cells #[.int .i64 2] 3) = W1 := ⟨_, rfl⟩
  obtain ⟨W2, hW2⟩ : ∃ W2, W1.alloc (.cells #[.int .i64 2] 3) = W2 := ⟨_, rfl⟩
  have s1 := size_allocEq hW1
  have s2 := size_allocEq hW2
  rw [hW1, hW2]
  obtain ⟨W3, hW3⟩ : ∃ W3, W2.alloc (.cells #[.int .i64 0, .slice (some ⟨w.heap.size, 0, none⟩) 1 1, .slice none 0 0, .int .i64 0, .slice (some ⟨w.heap.size + 1, 0, none⟩) 1 1, .slice none 0 0] 101) = W3 := ⟨_, rfl⟩
  have s3 := size_allocEq hW3
  have k1 := ((Blk.newEq hW1).allocEq hW2).allocEq hW3
  have k2 := (Blk.newEq hW2).allocEq hW3
  have k3 := Blk.newEq hW3
  have b3 := below_allocEq (below_allocEq (below_allocEq (Below.refl w.heap.size w) hW1 (Nat.le_refl _)) hW2 (by omega)) hW3 (by omega)
  rw [hW3]
  clear hW1 hW2 hW3
  have hA : TxnS W3 (Old W3) (.slice (some ⟨w.heap.size + 1 + 1, 0, none⟩) 2 2) exA := by
    rw [show W2.heap.size = w.heap.size + 1 + 1 by omega] at k3
    rw [show W1.heap.size = w.heap.size + 1 by omega] at k2
    exact TxnS.two (t0 := ⟨0, [2], []⟩) (t1 := ⟨0, [2], []⟩) k3 (IntS.of_blk (l := [2]) k1 k1.lt) (SlR.nil _ _ _ _ _ _) (IntS.of_blk (l := [2]) k2 k2.lt) (SlR.nil _ _ _ _ _ _) k3.lt
  have hc := step28_any (some ⟨w.heap.size + 1 + 1, 0, none⟩) 2 exA 0 W3 hA ⟨by decide, by decide⟩ (hTB.below b3)
  rw [hE1.out] at hc
  refine Calls.mono (by exact hc) ?_
  clear hc
  rintro e W4 h4
  obtain ⟨Ao, no, co, At, nt, ct, Af, nf, cf, hno, hnt, hnf, rfl, v4, b4⟩ := (h4).v
  simp only [List.length_nil, List.length_cons, Nat.zero_add, treeN] at hno hnt hnf
  subst hno hnt hnf
  clear h4
  obtain ⟨W5, hX, q, bX⟩ := ScrB.made v4
  replace q := hide q
  replace hX := hide hX
  clear v4
  dsimp only at hX ⊢
  go_upto_region 2 with fail
  rw [hX.out]
  have b5 := b3.trans (b4.mono b3.size)
  replace b5 := b5.trans (bX.mono b5.size)
  have q5 := q
  clear hX bX b4 k1 k2 k3 hA b3 q
  go_wp2_with fail
  obtain ⟨W6, hW6⟩ : ∃ W6, W5.alloc (.cells #[.int .i64 0, .slice none 0 0, .slice none 0 0] 101) = W6 := ⟨_, rfl⟩
  rw [hW6]
  have k6 := Blk.newEq hW6
  have b6 := below_allocEq (Below.refl W5.heap.size W5) hW6 (Nat.le_refl _)
  have hB : TxnS W6 (Old W6) (.slice (some ⟨W5.heap.size, 0, none⟩) 1 1) exB := SlR.one k6 rfl ⟨_, _, rfl, SlR.nil _ _ _ _ _ _, SlR.nil _ _ _ _ _ _⟩ k6.lt
  have hc := step28_any (some ⟨W5.heap.size, 0, none⟩) 1 exB 1 W6 hB ⟨by decide, by decide⟩ (hTB.below (b5.trans (b6.mono b5.size)))
  rw [hE2.out] at hc
  refine Calls.mono (by exact hc) ?_
  clear hc
  rintro e W7 h7
  obtain ⟨Ao, no, co, At, nt, ct, Af, nf, cf, hno, hnt, hnf, rfl, v7, b7⟩ := (h7).v
  simp only [List.length_nil, List.length_cons, Nat.zero_add, treeN] at hno hnt hnf
  subst hno hnt hnf
  clear h7
  obtain ⟨W8, hX, q, bX⟩ := ScrB.made v7
  replace q := hide q
  replace hX := hide hX
  clear v7
  dsimp only at hX ⊢
  go_upto_region 3 with fail
  rw [hX.out]
  have b8 := (b6.trans (b7.mono b6.size)).trans (bX.mono (by have := b6.size; have := b7.size; omega))
  have q8 := q
  replace q5 := hide (q5.out.below b8)
  replace b5 := b5.trans (b8.mono b5.size)
  clear hX bX b7 b8 k6 hB b6 hW6 q
  go_wp2_with fail
  obtain ⟨X1, hX1⟩ : ∃ X1, W8.alloc (.cells #[.int .i64 1, .int .i64 1] 112) = X1 := ⟨_, rfl⟩
  obtain ⟨X2, hX2⟩ : ∃ X2, X1.alloc (.cells #[.int .i64 1] 3) = X2 := ⟨_, rfl⟩
  have s1 := size_allocEq hX1
  have s2 := size_allocEq hX2
  rw [hX1, hX2]
  obtain ⟨X3, hX3⟩ : ∃ X3, X2.alloc (.cells #[.int .i64 0, .slice none 0 0, .slice (some ⟨W8.heap.size, 0, none⟩) 1 1, .int .i64 0, .slice (some ⟨W8.heap.size + 1, 0, none⟩) 1 1, .slice none 0 0] 101) = X3 := ⟨_, rfl⟩
  have s3 := size_allocEq hX3
  have k1 := ((Blk.newEq hX1).allocEq hX2).allocEq hX3
  have k2 := (Blk.newEq hX2).allocEq hX3
  have k3 := Blk.newEq hX3
  have b9 := below_allocEq (below_allocEq (below_allocEq (Below.refl W8.heap.size W8) hX1 (Nat.le_refl _)) hX2 (by omega)) hX3 (by omega)
  rw [hX3]
  clear hX1 hX2 hX3
  have hC : TxnS X3 (Old X3) (.slice (some ⟨W8.heap.size + 1 + 1, 0, none⟩) 2 2) exC := by
    rw [show X2.heap.size = W8.heap.size + 1 + 1 by omega] at k3
    rw [show X1.heap.size = W8.heap.size + 1 by omega] at k2
    exact TxnS.two (t0 := ⟨0, [], [⟨1, 1⟩]⟩) (t1 := ⟨0, [1], []⟩) k3 (SlR.nil _ _ _ _ _ _) (SlR.one k1 rfl rfl k1.lt) (IntS.of_blk (l := [1]) k2 k2.lt) (SlR.nil _ _ _ _ _ _) k3.lt
  have hc := step28_any (some ⟨W8.heap.size + 1 + 1, 0, none⟩) 2 exC 1 X3 hC ⟨by decide, by decide⟩ (hTB.below (b5.trans (b9.mono b5.size)))
  rw [hE3.out] at hc
  refine Calls.mono (by exact hc) ?_
  clear hc
  rintro e X4 h10
  obtain ⟨Ao, no, co, At, nt, ct, Af, nf, cf, hno, hnt, hnf, rfl, v10, b10⟩ := (h10).v
  simp only [List.length_nil, List.length_cons, Nat.zero_add, treeN] at hno hnt hnf
  subst hno hnt hnf
  clear h10
  obtain ⟨X5, hX, q, bX⟩ := ScrB.made v10
  replace q := hide q
  replace hX := hide hX
  clear v10
  dsimp only at hX ⊢
  go_upto_region 4 with fail
  rw [hX.out]
  have b11 := (b9.trans (b10.mono b9.size)).trans (bX.mono (by have := b9.size; have := b10.size; omega))
  replace q5 := q5.out.below b11
  replace q8 := q8.out.below b11
  replace b5 := b5.trans (b11.mono b5.size)
  replace q := q.out
  clear hX bX b10 b11 k1 k2 k3 hC b9 hE1 hE2 hE3
  generalize W4.heap.size = g1 at *
  generalize W7.heap.size = g2 at *
  generalize X4.heap.size = g3 at *
  obtain ⟨u1, u2, u3, k1, o1, t1, f1⟩ := q5
  obtain ⟨y1, y2, y3, k2, o2, t2, f2⟩ := q8
  obtain ⟨z1, z2, z3, k3, o3, t3, f3⟩ := q
  obtain ⟨A1, c1, rfl⟩ := own_slice f1
  obtain ⟨A2, c2, rfl⟩ := own_slice o2
  obtain ⟨p3, vc, -, rfl, kn, on⟩ := t3
  obtain ⟨A4, c4, rfl⟩ := own_slice on
  obtain ⟨bf, off, rfl, e0, e1, e2, e3, -⟩ := f1.at_ (i := 0) (by simp)
  have a0 := k1.cell 0
  have a3 := k1.cell 3
  have d0 := k2.cell 0
  have d1 := k2.cell 1
  have j0 := k3.cell 0
  have j2 := k3.cell 2
  have n3 := kn.cell 3
  simp only [List.getElem?_toArray, List.getElem?_cons_zero, List.getElem?_cons_succ, List.getElem_cons_zero, Nat.zero_mul, Nat.add_zero, List.length_cons, List.length_nil, Nat.zero_add, intsN_len, mkF] at a0 a3 d0 d1 j0 j2 n3 e0 e1 e2 e3
  clear k1 k2 k3 o1 o2 o3 t1 t2 f1 f2 f3 kn on
  go_wp2
  go_ret
  exact ⟨rfl, b5⟩
end Go.Proofs.YtjomijnbnbideaaGreatDoor

namespace Go.Proofs.YtjomijnbnbideaaGreatDoor
open Go.ChangeShapes Go.WideShapes Go.ChangeAt Go.RowKit Go.Inq

theorem own : ownKnob Tryz.prog.godebug = none := by kernel_rfl
theorem laidOut : laidOutB Tryz.prog = true := by kernel_rfl
theorem returnsInHanded_shaped_and {H : Type} {enc : TypeId × Value → H} {a : Assume} {C : Checked} {os : Os} {f : FuncId} {fn : Func} {s : ChangeSpec} {conds : List PathCond} {apart fresh handsOn again : Bool} {X : World → Array Value → Prop}
    (hX : ∀ (w w' : World) (args : Array Value), w.heap = w'.heap → X w args → X w' args)
    (own : ownKnob C.prog.godebug = none) (started : os.Started) (noInit : C.prog.inits.idxOf? f = none) (hfn : C.prog.funcs[f]? = some fn)
    (witness : ∃ (w : World) (tape : Tape) (i : Input), w.os = os ∧ (w.forCall tape i).Shaped C.prog ∧ i.vars = [] ∧ Input.okWide C.prog (w.forCall tape i) .any w.heap.size f i ∧
      ((s.pre enc C.prog fn conds apart (w.forCall tape i).memory i.args ∧ X (w.forCall tape i).memory i.args) ∧ sizedMet enc C.prog fn (OpenSpec.ofChange s) apart (w.forCall tape i).memory i.args) ∧ a.holds C.prog (lone (Frame.enter C.prog f i.args .normal) [] (w.forCall tape i)))
    (contract : ∀ (W : World) (base : Nat) (args : Array Value) (ds gs : List (DataW H)) (before : List MemPlace),
      (∀ (j : Nat) t v, fn.params[j]? = some t → args[j]? = some v → Value.okWide C.prog W .any base t v) →
      DataW.Whole enc C.prog fn.params.toList s.vars apart W args.toList ds gs before →
      X W args → W.ShapedOpen C.prog →
      Calls C.prog f args W fun e W' => ∃ v, e = .returned v ∧ s.post enc C.prog fn apart fresh handsOn again W args v W') :
    ReturnsInHanded a C os f .any (fun w args => (s.pre enc C.prog fn conds apart w args ∧ X w args) ∧ sizedMet enc C.prog fn (OpenSpec.ofChange s) apart w args) (s.post enc C.prog fn apart fresh handsOn again) := by
  refine returnsInHanded_of_calls own started noInit witness ?_
  intro w tape i _ hsh _ hok hpre hholds
  obtain ⟨_, _, _, fn', hfn', _, _, _, _, hval⟩ := hok
  have e : fn' = fn := Option.some.inj (hfn'.symm.trans hfn)
  subst e
  obtain ⟨⟨⟨ds, gs, before, hw, hc⟩, hx⟩, hz⟩ := hpre
  have hw' := DataW.Whole.of_heap (w' := w.forCall tape i) (by rfl) hw
  refine (contract (w.forCall tape i) w.heap.size i.args ds gs before hval hw' (hX _ _ _ (by rfl) hx) hsh).mono fun e W' ⟨v, he, hp⟩ => ?_
  subst he
  exact ChangeSpec.post_blind hp

/-- Types whose data stay readable in a world that only grew. -/
def keptTypes (P : Program) (ts : List TypeId) : Bool := ts.all fun t => P.readableRec t && decide (t < P.types.size)
theorem Below.trodAllP {P : Program} (hl : laidOutB P = true) {H : Type} {enc : TypeId × Value → H} {W W' : World} (hb : Below W.heap.size W W') : ∀ (ts : List TypeId) (vs : List Value) (ds : List (DataW H)) (ps : List MemPlace), keptTypes P ts = true →
    DataW.TrodAll enc P W 0 (fun _ => true) true ts vs ds ps → (∀ x ∈ ps, x.block < W.heap.size) → DataW.TrodAll enc P W' 0 (fun b => decide (b < W.heap.size)) true ts vs ds ps := by
  intro ts
  induction ts with
  | nil =>
    intro vs ds ps _ h _
    cases vs with
    | cons => exact h.elim
    | nil =>
      cases ds with
      | cons => exact h.elim
      | nil => exact h
  | cons t ts ih =>
    intro vs ds ps hk h hlt
    cases vs with
    | nil => exact h.elim
    | cons v vs =>
      cases ds with
      | nil => exact h.elim
      | cons d ds =>
        obtain ⟨p, q, h1, h2, rfl⟩ := h
        unfold keptTypes at hk
        rw [List.all_cons, Bool.and_eq_true, Bool.and_eq_true] at hk
        exact ⟨p, q, Below.trod hl hk.1.1 (of_decide_eq_true hk.1.2) h1 hb (fun x hx => hlt x (List.mem_append.2 (.inl hx))), ih _ _ _ hk.2 h2 (fun x hx => hlt x (List.mem_append.2 (.inr hx))), rfl⟩
theorem Below.trodAll {H : Type} {enc : TypeId × Value → H} {W W' : World} (hb : Below W.heap.size W W') {ts : List TypeId} {vs : List Value} {ds : List (DataW H)} {ps : List MemPlace} (hk : keptTypes Tryz.prog ts = true)
    (h : DataW.TrodAll enc Tryz.prog W 0 (fun _ => true) true ts vs ds ps) (hlt : ∀ x ∈ ps, x.block < W.heap.size) : DataW.TrodAll enc Tryz.prog W' 0 (fun b => decide (b < W.heap.size)) true ts vs ds ps :=
  Below.trodAllP laidOut hb ts vs ds ps hk h hlt

/-- A number that came in lies in its kind's range. -/
theorem okWide_range {P : Program} {w : World} {base : Nat} {t : TypeId} {k : IntKind} {n : Int} (ht : P.underlying t = some (.int k)) (h : Value.okWide P w .any base t (.int k n)) : k.has n := by
  simp only [Value.okWide, ht, Cell.okWide] at h
  simp only [Cell.ok, ht] at h
  exact h.2
theorem TabB.of {l : List (String × DataW Unit)} {W : World} (h : laidMetH Tryz.prog l W) (hp : laidMetH Tryz.prog l W = laidMet Tryz.prog l W) (hm : ("math/bits.deBruijn64tab", Rows.laid_math_bits_deBruijn64tab) ∈ l) : TabB W := by
  rw [hp] at h
  obtain ⟨g, t, cs, fuel, p, hg, ht, hv, hd⟩ := Lib.laidMet.reads h hm
  obtain rfl := Option.some.inj ((show Tryz.prog.globalNamed "math/bits.deBruijn64tab" = some 0 by kernel_rfl).symm.trans hg)
  obtain rfl := Option.some.inj ((show (Tryz.prog.globals[0]?).map (·.type) = some 261 by kernel_rfl).symm.trans ht)
  have hc := Lib.cells_of_tab (k := .u8) (zs := Lib.deBruijn64tab.map fun (x : Nat) => (x : Int)) Tryz.underlying261 Tryz.underlying5 (by kernel_rfl) (by kernel_rfl) hd
  intro j hj
  rw [World.var?_cell hg hv j]
  have h1 : cs.toList[j]? = some (.int .u8 (Lib.deBruijn64tab.getD j 0)) := by
    rw [hc, List.getElem?_map, List.getElem?_map, List.getElem?_eq_getElem hj]
    simp [List.getD_eq_getElem?_getD, List.getElem?_eq_getElem hj]
  simpa using h1
end Go.Proofs.YtjomijnbnbideaaGreatDoor

namespace Go.Proofs.YtjomijnbnbideaaGreatDoor
open Go.Joins Go.ChangeShapes Go.WideShapes Go.ChangeAt Go.RowKit Go.Deep Go.Inq
section
variable {H : Type} {enc : TypeId × Value → H} {w : World} {base : Nat} {spare : Nat → Bool} {held : Bool}

theorem open_rows {α : Type} {size : Nat} {R : World → (Nat → Prop) → List Value → α → Prop} {te ts : TypeId} (P : α → Prop) (x0 : α) (hT : Tryz.prog.underlying ts = some (.slice te)) (hC : Tryz.prog.cellsOf te = size) (hs0 : 0 < size)
    (hop : ∀ n cs x, DataW.trod enc Tryz.prog w base spare held n te cs = some x → ∃ t, R w (Old w) cs t ∧ P t)
    {n : Nat} {v : Value} {x : DataW H × List MemPlace} (h : DataW.trod enc Tryz.prog w base spare held n ts [v] = some x) :
    ∃ (A : Option Addr) (c : Nat) (l : List α), v = .slice A l.length c ∧ SlR size R w (Old w) (.slice A l.length c) l ∧ l.length ≤ maxLen ∧ ∀ t ∈ l, P t := by
  rcases open_slice hT h with ⟨h1, _⟩ | ⟨a, len, cap, m, n', D, Pl, h1, _, hl, hm, hmm, hx, hi⟩
  · injection h1 with h1
    exact ⟨none, 0, [], h1, SlR.nil _ _ _ _ _ _, Nat.zero_le _, fun t ht => by simp at ht⟩
  · injection h1 with h1
    subst h1
    rw [hC] at hi
    have hlm : len ≤ m := by rw [hmm]; split <;> omega
    have hex : ∀ i, ∃ p : α × List Value, i < len → p.2.length = size ∧ R w (Old w) p.2 p.1 ∧ P p.1 ∧ ∀ j u, p.2[j]? = some u → w.cell? (a.add (i * size + j)) = some u := fun i => by
      by_cases hil : i < len
      · obtain ⟨cs, hc, ht⟩ := hi i (by omega)
        obtain ⟨t, hR, hP⟩ := hop _ _ _ ht
        obtain ⟨_, hcl, hat⟩ := World.cells?_some hc
        refine ⟨(t, cs), fun _ => ⟨by simpa using hcl, hR, hP, fun j u hj => ?_⟩⟩
        have hj4 : j < size := by
          rcases Nat.lt_or_ge j size with h | h
          · exact h
          · rw [List.getElem?_eq_none (by dsimp only; omega)] at hj; cases hj
        rw [← Go.Deep.add_add, hat j hj4]
        exact hj
      · exact ⟨(x0, []), fun h => absurd h hil⟩
    obtain ⟨f, hf⟩ := Classical.axiomOfChoice hex
    have hlen : ((List.range len).map fun i => (f i).1).length = len := by simp
    refine ⟨some a, cap, (List.range len).map fun i => (f i).1, by rw [hlen], ⟨some a, cap, (List.range len).map fun i => (f i).2, rfl, by omega, by simp, fun i cs x h1 h2 => ?_, fun h0 => ?_⟩, by omega, fun t ht => ?_⟩
    · simp only [List.getElem?_map] at h1 h2
      cases hr : (List.range len)[i]? with
      | none => rw [hr] at h1; cases h1
      | some k =>
        rw [hr] at h1 h2
        simp at h1 h2
        subst h1 h2
        have hk : k < len := by
          rw [List.getElem?_eq_some_iff] at hr
          obtain ⟨h3, h4⟩ := hr
          simp at h3 h4
          omega
        exact ⟨(hf k hk).1, (hf k hk).2.1⟩
    · rw [hlen] at h0
      obtain ⟨g1, _, _, g4⟩ := hf 0 h0
      have hc0 := g4 0 ((f 0).2[0]'(by omega)) (List.getElem?_eq_getElem (by omega))
      obtain ⟨_, _, _, _, hs⟩ := World.shape?_of_cell? hc0
      obtain ⟨b, o, sp⟩ := a
      have hsp : sp = none := by
        cases sp with
        | none => rfl
        | some q => simp [Addr.add] at hs
      subst hsp
      have hbl : b < w.heap.size := by have := block_lt_of_cell hc0; rwa [Addr.add_lit] at this
      refine ⟨b, o, rfl, hbl, fun i j cs u h1 h2 => ?_⟩
      simp only [List.getElem?_map] at h1
      cases hr : (List.range len)[i]? with
      | none => rw [hr] at h1; cases h1
      | some k =>
        rw [hr] at h1
        simp at h1
        subst h1
        have hk : k = i ∧ i < len := by
          rw [List.getElem?_eq_some_iff] at hr
          obtain ⟨h3, h4⟩ := hr
          simp at h3 h4
          exact ⟨h4.symm, h3⟩
        have := (hf i hk.2).2.2.2 j u (by rw [← hk.1]; exact h2)
        rw [Addr.add_lit, ← Nat.add_assoc] at this
        exact this
    · obtain ⟨k, hk, rfl⟩ := List.mem_map.1 ht
      exact (hf k (by simpa using hk)).2.2.1

theorem open_num {n : Nat} {cs : List Value} {x : DataW H × List MemPlace} (h : DataW.trod enc Tryz.prog w base spare held n 3 cs = some x) : ∃ k : Int, Go.Inq.Flat Go.Inq.encI w (Old w) cs k ∧ True := by
  obtain ⟨k, e, _⟩ := DataW.trod_int Tryz.underlying3 h
  exact ⟨k, e, trivial⟩
theorem open_nums {n : Nat} {v : Value} {x : DataW H × List MemPlace} (h : DataW.trod enc Tryz.prog w base spare held n 27 [v] = some x) :
    ∃ (A : Option Addr) (c : Nat) (l : List Int), v = .slice A l.length c ∧ IntS w (Old w) (.slice A l.length c) l ∧ l.length ≤ maxLen := by
  obtain ⟨A, c, l, h1, h2, h3, _⟩ := open_rows (R := Go.Inq.Flat Go.Inq.encI) (size := 1) (fun _ => True) 0 Tryz.underlying27 (by kernel_rfl) (by decide) (fun n cs x h => open_num h) h
  exact ⟨A, c, l, h1, h2, h3⟩
theorem open_take {n : Nat} {cs : List Value} {x : DataW H × List MemPlace} (hC : Tryz.prog.cellsOf 112 = 2) (h : DataW.trod enc Tryz.prog w base spare held n 112 cs = some x) : ∃ e : It, Go.Inq.Flat It.enc w (Old w) cs e ∧ True := by
  obtain ⟨y0, y1, n', _, hl, h0, h1⟩ := trod_struct2 Tryz.underlying112 h
  rw [hC] at hl
  have h31 : Tryz.prog.cellsOf 3 = 1 := by kernel_rfl
  simp only [h31] at h0 h1
  match cs, hl with
  | [a, b], _ =>
    obtain ⟨k0, e0, _⟩ := DataW.trod_int Tryz.underlying3 h0
    obtain ⟨k1, e1, _⟩ := DataW.trod_int Tryz.underlying3 h1
    simp at e0 e1
    exact ⟨⟨k0, k1⟩, by unfold Go.Inq.Flat; simp [It.enc, e0, e1], trivial⟩
theorem open_takes {n : Nat} {v : Value} {x : DataW H × List MemPlace} (h : DataW.trod enc Tryz.prog w base spare held n 99 [v] = some x) :
    ∃ (A : Option Addr) (c : Nat) (l : List It), v = .slice A l.length c ∧ ItS w (Old w) (.slice A l.length c) l ∧ l.length ≤ maxLen := by
  obtain ⟨A, c, l, h1, h2, h3, _⟩ := open_rows (R := Go.Inq.Flat It.enc) (size := 2) (fun _ => True) ⟨0, 0⟩ Tryz.underlying99 (by kernel_rfl) (by decide) (fun n cs x h => open_take (by kernel_rfl) h) h
  exact ⟨A, c, l, h1, h2, h3⟩
theorem open_txn {n : Nat} {cs : List Value} {x : DataW H × List MemPlace} (hC : Tryz.prog.cellsOf 101 = 3) (h : DataW.trod enc Tryz.prog w base spare held n 101 cs = some x) :
    ∃ t : Txn, TxnR w (Old w) cs t ∧ t.writes.length ≤ maxLen ∧ t.reads.length ≤ maxLen := by
  obtain ⟨y0, y1, y2, n', _, hl, h0, h1, h2⟩ := trod_struct3 Tryz.underlying101 h
  rw [hC] at hl
  have e1 : Tryz.prog.cellsOf 3 = 1 := by kernel_rfl
  have e2 : Tryz.prog.cellsOf 27 = 1 := by kernel_rfl
  have e3 : Tryz.prog.cellsOf 99 = 1 := by kernel_rfl
  simp only [e1, e2, e3] at h0 h1 h2
  match cs, hl with
  | [a, b, c], _ =>
    obtain ⟨k0, e0, _⟩ := DataW.trod_int Tryz.underlying3 h0
    simp at e0
    have h1' : DataW.trod enc Tryz.prog w base spare held n' 27 [b] = some y1 := by simpa using h1
    have h2' : DataW.trod enc Tryz.prog w base spare held n' 99 [c] = some y2 := by simpa using h2
    obtain ⟨A, c', l, hv, hev, hlen⟩ := open_nums h1'
    obtain ⟨A2, c2', l2, hv2, hev2, hlen2⟩ := open_takes h2'
    exact ⟨⟨k0, l, l2⟩, ⟨b, c, by rw [e0], by rw [hv]; exact hev, by rw [hv2]; exact hev2⟩, hlen, hlen2⟩
theorem open_txns {n : Nat} {v : Value} {x : DataW H × List MemPlace} (h : DataW.trod enc Tryz.prog w base spare held n 22 [v] = some x) :
    ∃ (A : Option Addr) (c : Nat) (l : List Txn), v = .slice A l.length c ∧ TxnS w (Old w) (.slice A l.length c) l ∧ l.length ≤ maxLen ∧ ∀ t ∈ l, t.writes.length ≤ maxLen ∧ t.reads.length ≤ maxLen :=
  open_rows (R := TxnR) (size := 3) (fun t => t.writes.length ≤ maxLen ∧ t.reads.length ≤ maxLen) ⟨0, [], []⟩ Tryz.underlying22 (by kernel_rfl) (by decide) (fun n cs x h => open_txn (by kernel_rfl) h) h
/-- A history. -/
theorem open_hist {n : Nat} {cs : List Value} {x : DataW H × List MemPlace} (hC : Tryz.prog.cellsOf 24 = 1) (h : DataW.trod enc Tryz.prog w base spare held n 24 cs = some x) :
    ∃ (A : Option Addr) (c : Nat) (l : List Txn), cs = [.slice A l.length c] ∧ TxnS w (Old w) (.slice A l.length c) l ∧ l.length ≤ maxLen ∧ ∀ t ∈ l, t.writes.length ≤ maxLen ∧ t.reads.length ≤ maxLen := by
  obtain ⟨y0, n', _, hl, h0⟩ := trod_struct1 Tryz.underlying24 h
  rw [hC] at hl
  have e1 : Tryz.prog.cellsOf 22 = 1 := by kernel_rfl
  simp only [e1] at h0
  match cs, hl with
  | [a], _ =>
    have h0' : DataW.trod enc Tryz.prog w base spare held n' 22 [a] = some y0 := by simpa using h0
    obtain ⟨A, c, l, hv, h1, h2, h3⟩ := open_txns h0'
    exact ⟨A, c, l, by rw [hv], h1, h2, h3⟩
end
end Go.Proofs.YtjomijnbnbideaaGreatDoor

namespace Go.Proofs.YtjomijnbnbideaaGreatDoor
open Go.RowKit Go.Inq
set_option maxHeartbeats 8000000
attribute [local go_sem ↓] Go.wp_at_zero Go.wp_at_succ

theorem RGP.start {W1 W5 : World} {B n : Nat} {E : Edges} {A : Option Addr} {c : Nat} (h : RG W1 B n E (.slice A n c)) (hn : n ≤ 64) (e : W1.alloc (.cells #[.int .i64 n, .slice A n c] 124) = W5) : RGP W5 B W1.heap.size n E A c := by
  subst e
  refine ⟨Blk.new _ _ _, h.alloc _, fun g hg => ?_, hn⟩
  rcases h with ⟨h1, h2⟩ | ⟨g', cap, cur, h1, h2, h3, r⟩
  · subst hg; cases h2
  · subst hg
    simp only [Value.slice.injEq, Option.some.injEq] at h1
    obtain ⟨rfl, -⟩ := h1
    exact h3.lt
set_option maxRecDepth 100000 in
theorem runion12_any (n : Nat) (A : Option Addr) (c : Nat) (E : Edges) (A2 : Option Addr) (c2 : Nat) (F : Edges) (K : Nat → Prop) (w : World) (h : GrS w K n A c E) (h2 : GrS w K n A2 c2 F) (hK : ∀ b, K b → b < w.heap.size) :
    Calls Tryz.prog 123 #[.agg #[.int .i64 n, .slice A n c], .agg #[.int .i64 n, .slice A2 n c2]] w (OutR w n (orE E F)) := by
  have hn64 := h.n64
  go_enter Tryz.func123, Tryz.ntmps123
  go_upto_region 1 with fail
  obtain ⟨W0, hW0⟩ : ∃ W0, ((w.alloc (.cells #[.int .i64 n, .slice A n c] 124)).alloc (.cells #[.int .i64 n, .slice A2 n c2] 124)).alloc (.cells #[.int .i64 0, .slice none 0 0] 124) = W0 := ⟨_, rfl⟩
  rw [hW0]
  have hb := below_three hW0
  have k1 := Blk.three1 hW0
  have k2 := Blk.three2 hW0
  have k3 := Blk.three3 hW0
  have s0 := size_three hW0
  have hg := hide (h.keep (Agree.below hb hK) (fun b hb => hb))
  have hg2 := hide (h2.keep (Agree.below hb hK) (fun b hb => hb))
  have hKW : Hid (∀ b, K b → b < W0.heap.size) := hide fun b hb => by have := hK b hb; omega
  clear hW0 h h2
  have c0 := k1.cell 0
  have c1 := k1.cell 1
  simp only [List.getElem?_toArray, List.getElem?_cons_zero, List.getElem?_cons_succ] at c0 c1
  replace s0 := hide s0
  go_wp2_with fail
  refine (rnew12_any n hn64 W0).mono ?_
  rintro e w1 ⟨v, rfl, hR, hb1⟩
  clear c0 c1
  obtain ⟨Av, cv, rfl, -⟩ := hR.gr hn64 (K := fun _ => True) (fun _ _ _ => trivial)
  go_upto_region 2 with fail
  obtain ⟨W5, hW5⟩ : ∃ W5, w1.alloc (.cells #[.int .i64 n, .slice Av n cv] 124) = W5 := ⟨_, rfl⟩
  rw [hW5]
  have hP := RGP.start hR hn64 hW5
  have hs1 := hb1.size
  have hb5 := below_allocEq hb1 hW5 hs1
  clear hW5 hR hb1
  go_wp2_with fail
  go_loopw [6] (fun s6 wr => ∃ x : Nat, x ≤ n ∧ s6 = .int .i64 x ∧ RGP wr W0.heap.size w1.heap.size n (uptoE (orE E F) x 0) Av cv ∧ Below W0.heap.size W0 wr) (fun s6 _ => n - (intOf s6).toNat)
  case atStart => exact ⟨0, Nat.zero_le _, by go_num, by rw [uptoE_zero]; exact hP, hb5⟩
  case round =>
    obtain ⟨x, hx, rfl, hPr, hbr⟩ := hrel
    have hx1 : (0 : Int) ≤ (x : Int) := Int.natCast_nonneg _
    have c0 := hPr.c0
    have c1 := hPr.c1
    have k1r := k1.below hbr k1.lt
    have a0 := k1r.cell 0
    simp only [List.getElem?_toArray, List.getElem?_cons_zero, List.getElem?_cons_succ] at a0
    by_cases hlt : x < n
    · have hx2 : (x : Int) < (n : Int) := by omega
      go_wp2_with fail
      clear c0 c1 a0 k1r
      go_loopw [7] (fun s7 wq => ∃ y : Nat, y ≤ n ∧ s7 = .int .i64 y ∧ RGP wq W0.heap.size w1.heap.size n (uptoE (orE E F) x y) Av cv ∧ Below W0.heap.size W0 wq) (fun s7 _ => n - (intOf s7).toNat)
      case atStart => exact ⟨0, Nat.zero_le _, by go_num, hPr, hbr⟩
      case round =>
        obtain ⟨y, hy, rfl, hPq, hbq⟩ := hrel
        have hy1 : (0 : Int) ≤ (y : Int) := Int.natCast_nonneg _
        have k1q := k1.below hbq k1.lt
        have k2q := k2.below hbq k2.lt
        have a0 := k1q.cell 0
        have a1 := k1q.cell 1
        have b0 := k2q.cell 0
        have b1 := k2q.cell 1
        simp only [List.getElem?_toArray, List.getElem?_cons_zero, List.getElem?_cons_succ] at a0 a1 b0 b1
        by_cases hlq : y < n
        · have hy2 : (y : Int) < (n : Int) := by omega
          have hgq := hide (hg.out.keep (Agree.below hbq hKW.out) (fun b hb => hb))
          have hc1 := hide (rhas12_any n A c E x y K wr hgq.out (fun b hb => Nat.lt_of_lt_of_le (hKW.out b hb) hbq.size) hlt hlq)
          have hor : Hid (orE E F x y = (E x y || F x y)) := hide rfl
          have hst := hide (uptoE_step (E := orE E F) (x := x) (y := y))
          have hsk := hide (uptoE_skip (E := orE E F) (x := x) (y := y))
          go_wp2_with fail
          clear a0 b0
          refine hc1.out.mono ?_
          rintro e w2 ⟨rfl, hb2⟩
          have hbz := hbq.trans (hb2.mono hbq.size)
          have hPz := hPq.below hb2 (Nat.le_refl _)
          have k2z := k2.below hbz k2.lt
          have b0 := k2z.cell 0
          have b1 := k2z.cell 1
          simp only [List.getElem?_toArray, List.getElem?_cons_zero, List.getElem?_cons_succ] at b0 b1
          clear hc1
          have hgz := hide (hg2.out.keep (Agree.below hbz hKW.out) (fun b hb => hb))
          have hc2 := hide (rhas12_any n A2 c2 F x y K w2 hgz.out (fun b hb => Nat.lt_of_lt_of_le (hKW.out b hb) hbz.size) hlt hlq)
          generalize E x y = e1 at *
          generalize F x y = e2 at *
          go_wp2_with fail
          clear b0 b1 k2z
          refine hc2.out.mono ?_
          rintro e w3 ⟨rfl, hb3⟩
          have hb4 := hbz.trans (hb3.mono hbz.size)
          have hP4 := hPz.below hb3 (Nat.le_refl _)
          clear hc2 hbz hPz hgz hgq hbq hPq hb3 hb2
          cases e1 <;> cases e2
          · have hE2 := hide (hsk.out (by rw [hor.out]; rfl))
            clear hst hsk hor hPr
            go_wp2
            go_roundw
            case rel => exact ⟨y + 1, by omega, by go_num, by rw [hE2.out]; exact hP4, hb4⟩
            case measure => simp [intOf]; omega
          · have hE2 := hide (hst.out (by rw [hor.out]; rfl))
            obtain ⟨g, rfl, hX⟩ := hP4.at_ hlt
            have hP5 := hide (hX.add hlt hlq)
            have hb5 := hide (hb4.setCell (p := ⟨g, x, none⟩) hX.B (.int .u64 (withB (setB ((uptoE (orE E F) x y) x) n) (y : Int) : Nat)))
            obtain ⟨-, c0, c1, d0, df, gp, gl, -, h64⟩ := hX
            clear hst hsk hor hPr hP4 hb4
            generalize setB ((uptoE (orE E F) x y) x) n = s at *
            go_upto_region 11 with fail
            refine wp_region_still_tail 11 (by kernel_rfl) (by kernel_rfl) ?_
            simp only [List.take_succ_cons, List.take_zero, List.drop_succ_cons, List.drop_zero]
            repeat still_step
            still_call ((rwith10_any _ h64 _ _).mono fun _ _ h => ⟨h.1, h.2.symm⟩)
            repeat still_step
            refine wpStill_nil ?_
            change wpList _ _ _ _ _ w3.drew
            go_wp2
            go_roundw
            case rel => exact ⟨y + 1, by omega, by go_num, by rw [hE2.out]; exact hP5.out.drew, hb5.out.trans ⟨rfl, rfl, rfl, Nat.le_refl _, fun _ _ => rfl⟩⟩
            case measure => simp [intOf]; omega
          · have hE2 := hide (hst.out (by rw [hor.out]; rfl))
            obtain ⟨g, rfl, hX⟩ := hP4.at_ hlt
            have hP5 := hide (hX.add hlt hlq)
            have hb5 := hide (hb4.setCell (p := ⟨g, x, none⟩) hX.B (.int .u64 (withB (setB ((uptoE (orE E F) x y) x) n) (y : Int) : Nat)))
            obtain ⟨-, c0, c1, d0, df, gp, gl, -, h64⟩ := hX
            clear hst hsk hor hPr hP4 hb4
            generalize setB ((uptoE (orE E F) x y) x) n = s at *
            go_upto_region 11 with fail
            refine wp_region_still_tail 11 (by kernel_rfl) (by kernel_rfl) ?_
            simp only [List.take_succ_cons, List.take_zero, List.drop_succ_cons, List.drop_zero]
            repeat still_step
            still_call ((rwith10_any _ h64 _ _).mono fun _ _ h => ⟨h.1, h.2.symm⟩)
            repeat still_step
            refine wpStill_nil ?_
            change wpList _ _ _ _ _ w3.drew
            go_wp2
            go_roundw
            case rel => exact ⟨y + 1, by omega, by go_num, by rw [hE2.out]; exact hP5.out.drew, hb5.out.trans ⟨rfl, rfl, rfl, Nat.le_refl _, fun _ _ => rfl⟩⟩
            case measure => simp [intOf]; omega
          · have hE2 := hide (hst.out (by rw [hor.out]; rfl))
            obtain ⟨g, rfl, hX⟩ := hP4.at_ hlt
            have hP5 := hide (hX.add hlt hlq)
            have hb5 := hide (hb4.setCell (p := ⟨g, x, none⟩) hX.B (.int .u64 (withB (setB ((uptoE (orE E F) x y) x) n) (y : Int) : Nat)))
            obtain ⟨-, c0, c1, d0, df, gp, gl, -, h64⟩ := hX
            clear hst hsk hor hPr hP4 hb4
            generalize setB ((uptoE (orE E F) x y) x) n = s at *
            go_upto_region 11 with fail
            refine wp_region_still_tail 11 (by kernel_rfl) (by kernel_rfl) ?_
            simp only [List.take_succ_cons, List.take_zero, List.drop_succ_cons, List.drop_zero]
            repeat still_step
            still_call ((rwith10_any _ h64 _ _).mono fun _ _ h => ⟨h.1, h.2.symm⟩)
            repeat still_step
            refine wpStill_nil ?_
            change wpList _ _ _ _ _ w3.drew
            go_wp2
            go_roundw
            case rel => exact ⟨y + 1, by omega, by go_num, by rw [hE2.out]; exact hP5.out.drew, hb5.out.trans ⟨rfl, rfl, rfl, Nat.le_refl _, fun _ _ => rfl⟩⟩
            case measure => simp [intOf]; omega
        · obtain rfl : y = n := by omega
          have hP4 := hide (hPq.congr (F := uptoE (orE E F) (x + 1) 0) fun a b _ hb => uptoE_row hb)
          clear hPq hPr
          go_wp2
          go_roundw
          case rel => exact ⟨x + 1, by omega, by go_num, hP4.out, hbq⟩
          case measure => simp [intOf]; omega
    · obtain rfl : x = n := by omega
      have hP4 := hPr.congr (F := orE E F) fun a b ha _ => uptoE_all ha
      have k3r := k3.below hbr k3.lt
      have f0 := k3r.frozen 0
      have f1 := k3r.frozen 1
      have e0 := k3r.cell 0
      have e1 := k3r.cell 1
      have hs0 := s0.out
      have hs3 : w.heap.size + 1 + 1 < W0.heap.size := k3.lt
      have hR := hide (((hP4.rg.far (p := ⟨w.heap.size + 1 + 1, 0, none⟩) hs3 (.int .i64 x)).far (p := ⟨w.heap.size + 1 + 1, 1, none⟩) hs3 (.slice Av x cv)).base (B' := w.heap.size) (by omega))
      have hz := hide (((hb.trans (hbr.mono hb.size)).setCell (p := ⟨w.heap.size + 1 + 1, 0, none⟩) (by simp; omega) (.int .i64 x)).setCell (p := ⟨w.heap.size + 1 + 1, 1, none⟩) (by simp; omega) (.slice Av x cv))
      have hq := (k3r.set_ 0 (.int .i64 x)).set_ 1 (.slice Av x cv)
      simp only [List.setIfInBounds_toArray, List.set_cons_zero, List.set_cons_succ] at hq
      have y0 := hq.cell 0
      have y1 := hq.cell 1
      simp only [List.getElem?_toArray, List.getElem?_cons_zero, List.getElem?_cons_succ] at y0 y1 e0 e1
      clear hq hs0 hs3
      go_wp2_with fail
      exact bodyPost_ret (v := .agg #[.int .i64 x, .slice Av x cv]) (by simp [results, Tryz.results123, go_sem, y0, y1]) rfl ⟨_, rfl, hR.out, hz.out⟩
end Go.Proofs.YtjomijnbnbideaaGreatDoor

namespace Go.Proofs.YtjomijnbnbideaaGreatDoor
open Go.RowKit Go.Inq
set_option maxHeartbeats 8000000
attribute [local go_sem ↓] Go.wp_at_zero Go.wp_at_succ

theorem upto_so (H : List Txn) (a k : Nat) (hk : k ≤ a + 1) : uptoE (soE H) a k = uptoE (soE H) a 0 := by
  induction k with
  | zero => rfl
  | succ k ih =>
    rw [uptoE_skip, ih (by omega)]
    unfold soE
    rw [decide_eq_false (by omega)]
    rfl
theorem soE_at {H : List Txn} {a b : Nat} (hab : a < b) (hb : b < H.length) : soE H a b = decide ((H[a]'(by omega)).sess = H[b].sess) := by
  unfold soE
  rw [decide_eq_true hab, txnAt_of (by omega), txnAt_of hb]
  rfl
set_option maxRecDepth 100000 in
theorem rso17_any (A : Option Addr) (c : Nat) (H : List Txn) (w : World) (h : TxnS w (Old w) (.slice A H.length c) H) (hr : rightH H = true) :
    Calls Tryz.prog 182 #[.agg #[.slice A H.length c]] w (OutR w H.length (soE H)) := by
  have hn64 : H.length ≤ 64 := by have := ((rightH_iff H).1 hr).1; omega
  clear hr
  go_enter Tryz.func182, Tryz.ntmps182
  go_upto_region 1 with fail
  obtain ⟨W0, hW0⟩ : ∃ W0, (w.alloc (.cells #[.slice A H.length c] 24)).alloc (.cells #[.int .i64 0, .slice none 0 0] 124) = W0 := ⟨_, rfl⟩
  rw [hW0]
  have hb := below_two hW0
  have k1 := Blk.two1 hW0
  have k3 := Blk.two2 hW0
  have s0 := size_two hW0
  have hT := hide (h.below hb)
  clear hW0 h
  have c0 := k1.cell 0
  simp only [List.getElem?_toArray, List.getElem?_cons_zero, List.getElem?_cons_succ] at c0
  replace s0 := hide s0
  go_wp2_with fail
  refine (rnew12_any H.length hn64 W0).mono ?_
  rintro e w1 ⟨v, rfl, hR, hb1⟩
  clear c0
  obtain ⟨Av, cv, rfl, -⟩ := hR.gr hn64 (K := fun _ => True) (fun _ _ _ => trivial)
  go_upto_region 2 with fail
  obtain ⟨W5, hW5⟩ : ∃ W5, w1.alloc (.cells #[.int .i64 (H.length : Int), .slice Av H.length cv] 124) = W5 := ⟨_, rfl⟩
  rw [hW5]
  have hP := RGP.start hR hn64 hW5
  have hs1 := hb1.size
  have hb5 := below_allocEq hb1 hW5 hs1
  clear hW5 hR hb1
  go_wp2_with fail
  go_loopw [4] (fun s4 wr => ∃ x : Nat, x ≤ H.length ∧ s4 = .int .i64 x ∧ RGP wr W0.heap.size w1.heap.size H.length (uptoE (soE H) x 0) Av cv ∧ Below W0.heap.size W0 wr) (fun s4 _ => H.length - (intOf s4).toNat)
  case atStart => exact ⟨0, Nat.zero_le _, by go_num, by rw [uptoE_zero]; exact hP, hb5⟩
  case round =>
    obtain ⟨x, hx, rfl, hPr, hbr⟩ := hrel
    have hx1 : (0 : Int) ≤ (x : Int) := Int.natCast_nonneg _
    have c0 := hPr.c0
    have c1 := hPr.c1
    by_cases hlt : x < H.length
    · have hx2 : (x : Int) < (H.length : Int) := by omega
      go_wp2_with fail
      clear c0 c1
      go_loopw [5] (fun s5 wq => ∃ y : Nat, x + 1 ≤ y ∧ y ≤ H.length ∧ s5 = .int .i64 y ∧ RGP wq W0.heap.size w1.heap.size H.length (uptoE (soE H) x y) Av cv ∧ Below W0.heap.size W0 wq) (fun s5 _ => H.length - (intOf s5).toNat)
      case atStart => exact ⟨x + 1, Nat.le_refl _, hlt, by go_num, by rw [upto_so H x (x + 1) (Nat.le_refl _)]; exact hPr, hbr⟩
      case round =>
        obtain ⟨y, hxy, hy, rfl, hP4, hb4⟩ := hrel
        have hy1 : (0 : Int) ≤ (y : Int) := Int.natCast_nonneg _
        have c0 := hP4.c0
        have c1 := hP4.c1
        by_cases hlq : y < H.length
        · have hy2 : (y : Int) < (H.length : Int) := by omega
          have hst := hide (uptoE_step (E := soE H) (x := x) (y := y))
          have hsk := hide (uptoE_skip (E := soE H) (x := x) (y := y))
          have hat := hide (soE_at (H := H) (a := x) (b := y) (by omega) hlq)
          have hTq := hT.out.below hb4
          have k1q := k1.below hb4 k1.lt
          have a0 := k1q.cell 0
          obtain ⟨bt, ot, _, _, _, _, e, -, d1, -⟩ := hTq.at_ hlt
          obtain ⟨bt', ot', _, _, _, _, e', -, d2, -⟩ := hTq.at_ hlq
          subst e
          injection e' with e'
          injection e' with e1 e2
          subst e1 e2
          generalize H[x].sess = p at *
          generalize H[y].sess = q at *
          generalize soE H x y = sb at *
          simp only [List.getElem?_toArray, List.getElem?_cons_zero, List.getElem?_cons_succ] at a0
          clear hTq k1q hPr hbr
          by_cases hpq : p = q
          · have hpb : (p == q) = true := by simpa using hpq
            have hE2 := hide (hst.out (by rw [hat.out]; simpa using hpq))
            go_wp2_with fail
            go_region
            clear a0 d1 d2
            replace hP4 := hP4.drew
            replace hb4 := below_drew hb4
            clear c0 c1
            generalize wr.drew = w3 at *
            obtain ⟨g, rfl, hX⟩ := hP4.at_ hlt
            have hP5 := hide (hX.add (y := y) hlt hlq).drew
            have hb5 := hide (below_drew (hb4.setCell (p := ⟨g, x, none⟩) hX.B (.int .u64 (withB (setB ((uptoE (soE H) x y) x) H.length) (y : Int) : Nat))))
            obtain ⟨-, c0, c1, d0, df, gp, gl, -, h64⟩ := hX
            clear hst hsk hP4 hb4
            generalize setB ((uptoE (soE H) x y) x) H.length = s at *
            go_upto_region 9 with fail
            refine wp_region_still_tail 11 (by kernel_rfl) (by kernel_rfl) ?_
            simp only [List.take_succ_cons, List.take_zero, List.drop_succ_cons, List.drop_zero]
            repeat still_step
            still_call ((rwith10_any _ h64 _ _).mono fun _ _ h => ⟨h.1, h.2.symm⟩)
            repeat still_step
            refine wpStill_nil ?_
            change wpList _ _ _ _ _ (w3).drew
            go_wp2
            go_roundw
            case rel => exact ⟨y + 1, by omega, by omega, by go_num, by rw [hE2.out]; exact hP5.out, hb5.out⟩
            case measure => simp [intOf]; omega
          · have hpb : (p == q) = false := by simpa using hpq
            have hE2 := hide (hsk.out (by rw [hat.out]; simpa using hpq))
            clear hpq
            go_wp2_with fail
            go_region
            clear a0 d1 d2
            replace hP4 := hP4.drew
            replace hb4 := below_drew hb4
            go_wp2
            go_roundw
            case rel => exact ⟨y + 1, by omega, by omega, by go_num, by rw [hE2.out]; exact hP4, hb4⟩
            case measure => simp [intOf]; omega
        · obtain rfl : y = H.length := by omega
          have hP4 := hide (hP4.congr (F := uptoE (soE H) (x + 1) 0) fun a b _ hb => uptoE_row hb)
          clear hPr
          go_wp2
          go_roundw
          case rel => exact ⟨x + 1, by omega, by go_num, hP4.out, hb4⟩
          case measure => simp [intOf]; omega
    · obtain rfl : x = H.length := by omega
      have hP4 := hPr.congr (F := soE H) fun a b ha _ => uptoE_all ha
      have k3r := k3.below hbr k3.lt
      have f0 := k3r.frozen 0
      have f1 := k3r.frozen 1
      have e0 := k3r.cell 0
      have e1 := k3r.cell 1
      have hs0 := s0.out
      have hs3 : w.heap.size + 1 < W0.heap.size := k3.lt
      have hR := hide (((hP4.rg.far (p := ⟨w.heap.size + 1, 0, none⟩) hs3 (.int .i64 H.length)).far (p := ⟨w.heap.size + 1, 1, none⟩) hs3 (.slice Av H.length cv)).base (B' := w.heap.size) (by omega))
      have hz := hide (((hb.trans (hbr.mono hb.size)).setCell (p := ⟨w.heap.size + 1, 0, none⟩) (by simp; try omega) (.int .i64 H.length)).setCell (p := ⟨w.heap.size + 1, 1, none⟩) (by simp; try omega) (.slice Av H.length cv))
      have hq := (k3r.set_ 0 (.int .i64 H.length)).set_ 1 (.slice Av H.length cv)
      simp only [List.setIfInBounds_toArray, List.set_cons_zero, List.set_cons_succ] at hq
      have y0 := hq.cell 0
      have y1 := hq.cell 1
      simp only [List.getElem?_toArray, List.getElem?_cons_zero, List.getElem?_cons_succ] at y0 y1 e0 e1
      clear hq hs0 hs3
      go_wp2_with fail
      exact bodyPost_ret (v := .agg #[.int .i64 H.length, .slice Av H.length cv]) (by simp [results, Tryz.results182, go_sem, y0, y1]) rfl ⟨_, rfl, hR.out, hz.out⟩
end Go.Proofs.YtjomijnbnbideaaGreatDoor

namespace Go.Proofs.YtjomijnbnbideaaGreatDoor
open Go.RowKit Go.Inq
set_option maxHeartbeats 8000000
attribute [local go_sem ↓] Go.wp_at_zero Go.wp_at_succ

/-- Who reads from whom, of the readers ahead of t, and the first i reads of t. -/
def wrTo (H : List Txn) (t i : Nat) : Edges := fun a b => decide (a ≠ b) && ((decide (b < t) && (txnAt H b).reads.any fun r => decide (r.b = (a : Int))) || (decide (b = t) && ((txnAt H b).reads.take i).any fun r => decide (r.b = (a : Int))))
theorem wrTo_zero (H : List Txn) : wrTo H 0 0 = noE := by
  funext a b
  simp [wrTo, noE]
theorem wrTo_step {H : List Txn} {t i s : Nat} {R : List It} (hR : (txnAt H t).reads = R) (hi : i < R.length) (hs : R[i].b = (s : Int)) (hst : s ≠ t) : wrTo H t (i + 1) = orE (wrTo H t i) (oneE s t) := by
  subst hR
  funext a b
  unfold wrTo orE oneE
  by_cases e : b = t
  · subst e
    rw [List.take_succ_eq_append_getElem hi, List.any_append]
    simp only [List.any_cons, List.any_nil, Bool.or_false, hs]
    by_cases e2 : a = s
    · subst e2
      simp [hst]
    · have : ¬ ((s : Int) = (a : Int)) := by omega
      simp [e2, this]
  · simp [e]
theorem wrTo_skip {H : List Txn} {t i : Nat} {R : List It} (hR : (txnAt H t).reads = R) (hi : i < R.length) (hs : R[i].b < 0) : wrTo H t (i + 1) = wrTo H t i := by
  subst hR
  funext a b
  unfold wrTo
  by_cases e : b = t
  · subst e
    rw [List.take_succ_eq_append_getElem hi, List.any_append]
    have : ¬ (((txnAt H b).reads[i]).b = (a : Int)) := by omega
    simp [this]
  · simp [e]
theorem wrTo_row {H : List Txn} {t : Nat} {R : List It} (hR : (txnAt H t).reads = R) : wrTo H t R.length = wrTo H (t + 1) 0 := by
  subst hR
  funext a b
  unfold wrTo
  by_cases e : b = t
  · subst e
    rw [List.take_length]
    simp
  · have : decide (b < t + 1) = decide (b < t) := by simp; omega
    simp [e, this]
theorem wrTo_all {H : List Txn} {a b : Nat} (hb : b < H.length) : wrTo H H.length 0 a b = wrE H a b := by
  unfold wrTo wrE
  simp [hb]
set_option maxRecDepth 100000 in
theorem rwr17_any (A : Option Addr) (c : Nat) (H : List Txn) (w : World) (h : TxnS w (Old w) (.slice A H.length c) H) (hr : rightH H = true) (hn : SmallH H) :
    Calls Tryz.prog 183 #[.agg #[.slice A H.length c]] w (OutR w H.length (wrE H)) := by
  have hok := hide (((rightH_iff H).1 hr).2)
  have hn64 : H.length ≤ 64 := by have := ((rightH_iff H).1 hr).1; omega
  clear hr
  go_enter Tryz.func183, Tryz.ntmps183
  go_upto_region 1 with fail
  obtain ⟨W0, hW0⟩ : ∃ W0, (w.alloc (.cells #[.slice A H.length c] 24)).alloc (.cells #[.int .i64 0, .slice none 0 0] 124) = W0 := ⟨_, rfl⟩
  rw [hW0]
  have hb := below_two hW0
  have k1 := Blk.two1 hW0
  have k3 := Blk.two2 hW0
  have s0 := size_two hW0
  have hT := hide (h.below hb)
  clear hW0 h
  have c0 := k1.cell 0
  simp only [List.getElem?_toArray, List.getElem?_cons_zero, List.getElem?_cons_succ] at c0
  replace s0 := hide s0
  go_wp2_with fail
  refine (rnew12_any H.length hn64 W0).mono ?_
  rintro e w1 ⟨v, rfl, hR, hb1⟩
  clear c0
  obtain ⟨Av, cv, rfl, -⟩ := hR.gr hn64 (K := fun _ => True) (fun _ _ _ => trivial)
  go_upto_region 2 with fail
  obtain ⟨W5, hW5⟩ : ∃ W5, w1.alloc (.cells #[.int .i64 (H.length : Int), .slice Av H.length cv] 124) = W5 := ⟨_, rfl⟩
  rw [hW5]
  have hP := RGP.start hR hn64 hW5
  have hs1 := hb1.size
  have hb5 := below_allocEq hb1 hW5 hs1
  clear hW5 hR hb1
  go_wp2_with fail
  go_loopw [4] (fun s4 wr => ∃ x : Nat, x ≤ H.length ∧ s4 = .int .i64 x ∧ RGP wr W0.heap.size w1.heap.size H.length (wrTo H x 0) Av cv ∧ Below W0.heap.size W0 wr) (fun s4 _ => H.length - (intOf s4).toNat)
  case atStart => exact ⟨0, Nat.zero_le _, by go_num, by rw [wrTo_zero]; exact hP, hb5⟩
  case round =>
    obtain ⟨x, hx, rfl, hPr, hbr⟩ := hrel
    have hx1 : (0 : Int) ≤ (x : Int) := Int.natCast_nonneg _
    have c0 := hPr.c0
    have c1 := hPr.c1
    by_cases hlt : x < H.length
    · have hx2 : (x : Int) < (H.length : Int) := by omega
      obtain ⟨bt, ot, Aw, cw, Ar, cr, rfl, hKb, -, -, d2, -, hrs⟩ := hT.out.at_ hlt
      replace d2 := (hbr.cell (p := ⟨bt, ot + x * 3 + 2, none⟩) hKb).trans d2
      have k1q := k1.below hbr k1.lt
      have a0 := k1q.cell 0
      simp only [List.getElem?_toArray, List.getElem?_cons_zero, List.getElem?_cons_succ] at a0
      obtain ⟨R, hR⟩ : ∃ R, H[x].reads = R := ⟨_, rfl⟩
      have hRt : (txnAt H x).reads = R := by rw [txnAt_of hlt]; exact hR
      have hth := hide (fun r (hr : r ∈ R) => (hok.out x hlt).there r (by rw [hR]; exact hr))
      have hR9 : R.length ≤ 1000000 := by rw [← hR]; exact (hn.2 _ (List.getElem_mem hlt)).2
      rw [hR] at hrs d2
      clear hR
      replace hRt := hide hRt
      replace hrs := hide hrs
      go_wp2_with fail
      clear c0 c1 a0 d2 k1q
      go_loopw [6] (fun s6 wq => ∃ i : Nat, i ≤ R.length ∧ s6 = .int .i64 i ∧ RGP wq W0.heap.size w1.heap.size H.length (wrTo H x i) Av cv ∧ Below W0.heap.size W0 wq) (fun s6 _ => R.length - (intOf s6).toNat)
      case atStart => exact ⟨0, Nat.zero_le _, by go_num, hPr, hbr⟩
      case round =>
        obtain ⟨i, hi, rfl, hP4, hb4⟩ := hrel
        have hi1 : (0 : Int) ≤ (i : Int) := Int.natCast_nonneg _
        by_cases hlq : i < R.length
        · have hi2 : (i : Int) < (R.length : Int) := by omega
          obtain ⟨br, orr, rfl, -, -, z1⟩ := (hrs.out.below hb4).at_ hlq
          have hthi := hide (hth.out _ (List.getElem_mem hlq))
          have hst := hide (fun s => wrTo_step (s := s) hRt.out hlq)
          have hsk := hide (wrTo_skip hRt.out hlq)
          generalize R[i] = r at *
          by_cases hneg : r.b < 0
          · have hE2 := hide (hsk.out hneg)
            have hnb : decide (r.b ≥ 0) = false := by simp; omega
            clear hst hsk hthi hneg
            go_wp2
            go_roundw
            case rel => exact ⟨i + 1, by omega, by go_num, by rw [hE2.out]; exact hP4, hb4⟩
            case measure => simp [intOf]; omega
          · obtain ⟨s0, hs0, hsx, hsl⟩ : ∃ s0 : Nat, r.b = (s0 : Int) ∧ s0 ≠ x ∧ s0 < H.length := by
              rcases (thereB_iff H x r).1 hthi.out with e | ⟨k, hk, e, e2, -⟩
              · omega
              · exact ⟨k, e, e2, hk⟩
            rw [hs0] at z1
            have hE2 := hide (hst.out s0 hs0 hsx)
            have hnb : decide ((s0 : Int) ≥ 0) = true := by simp
            have hs1' : (0 : Int) ≤ (s0 : Int) := Int.natCast_nonneg _
            have hs2' : (s0 : Int) < (H.length : Int) := by omega
            go_wp2_with fail
            obtain ⟨g, rfl, hX⟩ := hP4.at_ hsl
            have hP5 := hide (hX.add (y := x) hsl hlt).drew
            have hb5 := hide (below_drew (hb4.setCell (p := ⟨g, s0, none⟩) hX.B (.int .u64 (withB (setB ((wrTo H x i) s0) H.length) (x : Int) : Nat))))
            obtain ⟨-, c0, c1, d0, df, gp, gl, -, h64⟩ := hX
            clear hst hsk hneg hs0 hsx hthi hP4 hb4
            generalize setB ((wrTo H x i) s0) H.length = s at *
            go_upto_region 10 with fail
            refine wp_region_still_tail 19 (by kernel_rfl) (by kernel_rfl) ?_
            simp only [List.take_succ_cons, List.take_zero, List.drop_succ_cons, List.drop_zero]
            repeat still_step
            still_call ((rwith10_any _ h64 _ _).mono fun _ _ h => ⟨h.1, h.2.symm⟩)
            repeat still_step
            refine wpStill_nil ?_
            change wpList _ _ _ _ _ (wr).drew
            go_wp2
            go_roundw
            case rel => exact ⟨i + 1, by omega, by go_num, by rw [hE2.out]; exact hP5.out, hb5.out⟩
            case measure => simp [intOf]; omega
        · obtain rfl : i = R.length := by omega
          rw [wrTo_row hRt.out] at hP4
          clear hPr
          go_wp2
          go_roundw
          case rel => exact ⟨x + 1, by omega, by go_num, hP4, hb4⟩
          case measure => simp [intOf]; omega
    · obtain rfl : x = H.length := by omega
      have hP4 := hPr.congr (F := wrE H) fun a b _ hb => wrTo_all hb
      have k3r := k3.below hbr k3.lt
      have f0 := k3r.frozen 0
      have f1 := k3r.frozen 1
      have e0 := k3r.cell 0
      have e1 := k3r.cell 1
      have hs0 := s0.out
      have hs3 : w.heap.size + 1 < W0.heap.size := k3.lt
      have hR := hide (((hP4.rg.far (p := ⟨w.heap.size + 1, 0, none⟩) hs3 (.int .i64 H.length)).far (p := ⟨w.heap.size + 1, 1, none⟩) hs3 (.slice Av H.length cv)).base (B' := w.heap.size) (by omega))
      have hz := hide (((hb.trans (hbr.mono hb.size)).setCell (p := ⟨w.heap.size + 1, 0, none⟩) (by simp; try omega) (.int .i64 H.length)).setCell (p := ⟨w.heap.size + 1, 1, none⟩) (by simp; try omega) (.slice Av H.length cv))
      have hq := (k3r.set_ 0 (.int .i64 H.length)).set_ 1 (.slice Av H.length cv)
      simp only [List.setIfInBounds_toArray, List.set_cons_zero, List.set_cons_succ] at hq
      have y0 := hq.cell 0
      have y1 := hq.cell 1
      simp only [List.getElem?_toArray, List.getElem?_cons_zero, List.getElem?_cons_succ] at y0 y1 e0 e1
      clear hq hs0 hs3
      go_wp2_with fail
      exact bodyPost_ret (v := .agg #[.int .i64 H.length, .slice Av H.length cv]) (by simp [results, Tryz.results183, go_sem, y0, y1]) rfl ⟨_, rfl, hR.out, hz.out⟩
end Go.Proofs.YtjomijnbnbideaaGreatDoor

namespace Go.Proofs.YtjomijnbnbideaaGreatDoor
open Go.RowKit Go.Inq
set_option maxHeartbeats 4000000
attribute [local go_sem ↓] Go.wp_at_zero Go.wp_at_succ

theorem writes08_any (ts : Int) (A : Option Addr) (c : Nat) (l : List Int) (vr : Value) (x : Int) (K : Nat → Prop) (w : World) (h : IntS w K (.slice A l.length c) l) (hK : ∀ b, K b → b < w.heap.size) (hn : l.length ≤ maxLen) :
    Calls Tryz.prog 163 #[.agg #[.int .i64 ts, .slice A l.length c, vr], .int .i64 x] w fun e w' => e = .returned (.bool (l.contains x)) ∧ Below w.heap.size w w' := by
  unfold maxLen at hn
  have hA : Below w.heap.size w (w.alloc (.cells #[.int .i64 ts, .slice A l.length c, vr] 101)) := (Below.refl _ _).alloc (Nat.le_refl _) _
  have kt : Blk (w.alloc (.cells #[.int .i64 ts, .slice A l.length c, vr] 101)) w.heap.size 101 #[.int .i64 ts, .slice A l.length c, vr] := Blk.new _ _ _
  have h1 := IntS.keep h (Agree.below hA hK) (fun b h => h)
  have y0 := kt.cell 1
  simp only [List.getElem?_toArray, List.getElem?_cons_zero, List.getElem?_cons_succ] at y0
  have hno : (∀ j (hj : j < l.length), l[j] ≠ x) → l.contains x = false := fun g => by
    rw [← Bool.not_eq_true, List.contains_iff_mem]
    intro hm
    obtain ⟨j, hj, e⟩ := List.getElem_of_mem hm
    exact g j hj e
  have hyes : ∀ j (hj : j < l.length), x = l[j] → l.contains x = true := fun j hj e => by
    rw [List.contains_iff_mem, e]; exact List.getElem_mem hj
  generalize l.contains x = cb at *
  replace hno := hide hno
  replace hyes := hide hyes
  go_enter Tryz.func163, Tryz.ntmps163
  go_wp2_with fail
  generalize w.alloc (.cells #[.int .i64 ts, .slice A l.length c, vr] 101) = W at *
  go_loop [5] (fun s5 => ∃ k : Nat, k ≤ l.length ∧ s5 = .int .i64 k ∧ Hid (∀ j (hj : j < l.length), j < k → l[j] ≠ x)) (fun s5 => l.length - (intOf s5).toNat)
  case atStart => exact ⟨0, Nat.zero_le _, by go_num, fun j hj h => absurd h (by omega)⟩
  case round =>
    obtain ⟨k, hk, rfl, hall⟩ := hrel
    have hk1 : (0 : Int) ≤ (k : Int) := Int.natCast_nonneg _
    by_cases hlt : k < l.length
    · have hi2 : (k : Int) < (l.length : Int) := by omega
      obtain ⟨b, off, rfl, _, hc⟩ := h1.at_ hlt
      have hh := hide (fun g => hyes.out k hlt g)
      have hst : Hid (l[k] ≠ x → ∀ j (hj : j < l.length), j < k + 1 → l[j] ≠ x) := fun g j hj hjk => by
        by_cases e : j = k
        · subst e; exact g
        · exact hall.out j hj (by omega)
      clear hall
      by_cases he : x = l[k]
      · have hb : (l[k] == x) = true := by simpa using he.symm
        have hr := hide (hh.out he)
        clear he hh hst
        go_wp2
        go_ret
        exact ⟨by rw [hr.out]; rfl, hA⟩
      · have hb : (l[k] == x) = false := by simpa using fun e => he e.symm
        have hn2 := hide (hst.out (fun e => he e.symm))
        clear he hh hst
        go_wp2
        go_round
        case rel => exact ⟨k + 1, by omega, by go_num, hn2⟩
        case measure => simp [intOf]; omega
    · have hr := hide (hno.out fun j hj => hall.out j hj (by omega))
      go_wp2
      go_ret
      exact ⟨by rw [hr.out]; rfl, hA⟩

theorem txF_no_w {H : List Txn} {n : Nat} (h : n < H.length) {j : Nat} (hj : j < H[n].writes.length) (hb : wF H[n].writes j = false) : (txF H n).all id = false := by
  rw [txF_at h]
  refine pre_false (List.prefix_refl _) (List.mem_append.2 (.inl (List.mem_append.2 (.inl ?_))))
  unfold wFs
  exact List.mem_map.2 ⟨j, by simpa using hj, hb⟩
theorem txF_no_r {H : List Txn} {n : Nat} (h : n < H.length) {j : Nat} (hj : j < H[n].reads.length) (hb : rF H n H[n].reads j = false) : (txF H n).all id = false := by
  rw [txF_at h]
  refine pre_false (List.prefix_refl _) (List.mem_append.2 (.inl (List.mem_append.2 (.inr ?_))))
  unfold rFs
  exact List.mem_map.2 ⟨j, by simpa using hj, hb⟩
theorem txF_no_s {H : List Txn} {n : Nat} (h : n < H.length) (hb : belowB H[n].sess 8 = false) : (txF H n).all id = false := by
  rw [txF_at h]
  exact pre_false (List.prefix_refl _) (List.mem_append.2 (.inr (by simp [hb])))
theorem txF_yes {H : List Txn} {n : Nat} (h : n < H.length) (hs : belowB H[n].sess 8 = true) (hw : ∀ j, j < H[n].writes.length → wF H[n].writes j = true) (hr : ∀ j, j < H[n].reads.length → rF H n H[n].reads j = true) : (txF H n).all id = true := by
  rw [txF_at h, List.all_append, List.all_append]
  have h1 : (wFs H[n].writes H[n].writes.length).all id = true := by
    rw [List.all_eq_true]
    intro b hb
    unfold wFs at hb
    obtain ⟨j, hj, rfl⟩ := List.mem_map.1 hb
    exact hw j (by simpa using hj)
  have h2 : (rFs H n H[n].reads H[n].reads.length).all id = true := by
    rw [List.all_eq_true]
    intro b hb
    unfold rFs at hb
    obtain ⟨j, hj, rfl⟩ := List.mem_map.1 hb
    exact hr j (by simpa using hj)
  rw [h1, h2]
  simp [hs]
/-- A key behind good ones: good just if it is a key, and greater than the one ahead. -/
theorem wF_first {l : List Int} (h : 0 < l.length) : wF l 0 = (decide (0 ≤ l[0]) && decide (l[0] < 16)) := by
  rw [wF_at h, show l.take 0 = [] from rfl, lastK_nil]
  congr 1
theorem wF_next {l : List Int} {m : Nat} (h : m + 1 < l.length) : wF l (m + 1) = (decide (l[m] < l[m + 1]) && decide (l[m + 1] < 16)) := by
  rw [wF_at h, List.take_succ_eq_append_getElem (by omega), lastK_snoc]
theorem wF_pos {l : List Int} : ∀ {m : Nat} (h : m < l.length), (∀ j, j ≤ m → wF l j = true) → 0 ≤ l[m]
  | 0, h, hall => by
    have := hall 0 (Nat.le_refl _)
    rw [wF_first h, Bool.and_eq_true, decide_eq_true_eq] at this
    exact this.1
  | m + 1, h, hall => by
    have ih := wF_pos (m := m) (by omega) fun j hj => hall j (by omega)
    have := hall (m + 1) (Nat.le_refl _)
    rw [wF_next h, Bool.and_eq_true, decide_eq_true_eq] at this
    omega
theorem rF_key {H : List Txn} {n : Nat} {l : List It} {j : Nat} (h : j < l.length) : rF H n l j = (wF (l.map (·.a)) j && thereB H n l[j]) := by
  rw [rF_at h, wF_at (by rw [List.length_map]; exact h), List.getElem_map, List.map_take]
theorem wF_is {l : List Int} {i : Nat} (h : i < l.length) (hall : ∀ j, j < i → wF l j = true) : wF l i = true ↔ 0 ≤ l[i] ∧ l[i] < 16 ∧ ∀ m (hm : m + 1 = i), l[m]'(by omega) < l[i] := by
  cases i with
  | zero =>
    rw [wF_first h, Bool.and_eq_true, decide_eq_true_eq, decide_eq_true_eq]
    exact ⟨fun g => ⟨g.1, g.2, fun m hm => by omega⟩, fun g => ⟨g.1, g.2.1⟩⟩
  | succ m =>
    have hp := wF_pos (m := m) (by omega) fun j hj => hall j (by omega)
    rw [wF_next h, Bool.and_eq_true, decide_eq_true_eq, decide_eq_true_eq]
    refine ⟨fun g => ⟨by omega, g.2, fun m' hm => ?_⟩, fun g => ⟨g.2.2 m rfl, g.2.1⟩⟩
    obtain rfl : m' = m := by omega
    exact g.1
theorem belowN {B : Nat} {w W : World} (h : Below B w W) (n : Nat) : Below B w (W.drewN n) := h.trans ⟨rfl, rfl, rfl, Nat.le_refl _, fun _ _ => rfl⟩
/-- A history's row as long as a slice may be. -/
def LenH (l : List Txn) : Prop := l.length ≤ 9223372036854775807 ∧ ∀ t ∈ l, t.writes.length ≤ 9223372036854775807 ∧ t.reads.length ≤ 9223372036854775807
theorem SmallH.len {l : List Txn} (h : SmallH l) : LenH l := ⟨by have := h.1; omega, fun t ht => by have := h.2 t ht; omega⟩
set_option maxHeartbeats 16000000 in
set_option maxRecDepth 100000 in
theorem one08_any (A : Option Addr) (c : Nat) (H : List Txn) (n : Nat) (w : World) (h : TxnS w (Old w) (.slice A H.length c) H) (hn : n < H.length) (hs : LenH H) :
    Calls Tryz.prog 111 #[.agg #[.slice A H.length c], .int .i64 n] w fun e w' => e = .returned (.bool ((txF H n).all id)) ∧ Below w.heap.size w w' := by
  have hH := hs.1
  obtain ⟨hsw, hsr⟩ := hs.2 _ (List.getElem_mem hn)
  have hAll := hide (fun m hm => (hs.2 _ (List.getElem_mem (l := H) (n := m) hm)).1)
  have hnw := hide (fun j hj hb => txF_no_w hn (j := j) hj hb)
  have hnr := hide (fun j hj hb => txF_no_r hn (j := j) hj hb)
  have hns := hide (fun hb => txF_no_s hn hb)
  have hyes := hide (fun a b c => txF_yes hn a b c)
  obtain ⟨b, off, Aw, cw, Ar, cr, rfl, hbK, d0, d1, d2, hws, hrs⟩ := TxnS.at_ h hn
  generalize ht : H[n] = t at *
  replace ht := hide ht
  obtain ⟨ts, ws, rs⟩ := t
  dsimp only at *
  have hW1 : Below w.heap.size w (w.alloc (.cells #[.slice (some ⟨b, off, none⟩) H.length c] 24)) := (Below.refl _ _).alloc (Nat.le_refl _) _
  have kH : Blk (w.alloc (.cells #[.slice (some ⟨b, off, none⟩) H.length c] 24)) w.heap.size 24 #[.slice (some ⟨b, off, none⟩) H.length c] := Blk.new _ _ _
  have e0 := (hW1.cell (p := ⟨b, off + n * 3, none⟩) hbK).trans d0
  have e1 := (hW1.cell (p := ⟨b, off + n * 3 + 1, none⟩) hbK).trans d1
  have e2 := (hW1.cell (p := ⟨b, off + n * 3 + 2, none⟩) hbK).trans d2
  have z0 := kH.cell 0
  simp only [List.getElem?_toArray, List.getElem?_cons_zero] at z0
  have hB2 := hW1.alloc hW1.size (.cells #[.int .i64 ts, .slice Aw ws.length cw, .slice Ar rs.length cr] 101)
  have kT : Blk ((w.alloc (.cells #[.slice (some ⟨b, off, none⟩) H.length c] 24)).alloc (.cells #[.int .i64 ts, .slice Aw ws.length cw, .slice Ar rs.length cr] 101)) (w.heap.size + 1) 101 #[.int .i64 ts, .slice Aw ws.length cw, .slice Ar rs.length cr] := by
    have := Blk.new (w.alloc (.cells #[.slice (some ⟨b, off, none⟩) H.length c] 24)) 101 #[.int .i64 ts, .slice Aw ws.length cw, .slice Ar rs.length cr]
    simp only [World.size_alloc] at this
    exact this
  have kH2 := kH.alloc (.cells #[.int .i64 ts, .slice Aw ws.length cw, .slice Ar rs.length cr] 101)
  have hn1 : (0 : Int) ≤ (n : Int) := Int.natCast_nonneg _
  have hn2 : (n : Int) < (H.length : Int) := by omega
  have t0 := kT.cell 0
  simp only [List.getElem?_toArray, List.getElem?_cons_zero] at t0
  by_cases g0 : ts < 0
  · have g0b : decide (ts < 0) = true := by simpa using g0
    have hno := hide (hns.out (by simp [belowB]; omega))
    go_enter Tryz.func111, Tryz.ntmps111
    go_wp2
    go_ret
    exact ⟨by rw [hno.out]; rfl, hB2⟩
  have g0b : decide (ts < 0) = false := by simpa using g0
  by_cases g1 : 7 < ts
  · have g1b : decide (ts > 7) = true := by simpa using g1
    have hno := hide (hns.out (by simp [belowB]; omega))
    go_enter Tryz.func111, Tryz.ntmps111
    go_wp2
    go_ret
    exact ⟨by rw [hno.out]; rfl, hB2⟩
  have g1b : decide (ts > 7) = false := by simpa using g1
  have hyes2 := hide (hyes.out (by simp [belowB]; omega))
  clear hyes hns
  go_enter Tryz.func111, Tryz.ntmps111
  go_wp2_with fail
  clear d0 d1 d2 e0 e1 e2 z0 t0 g0b g1b kH hW1
  generalize (w.alloc (.cells #[.slice (some ⟨b, off, none⟩) H.length c] 24)).alloc (.cells #[.int .i64 ts, .slice Aw ws.length cw, .slice Ar rs.length cr] 101) = W2 at *
  go_loopw [6] (fun s6 wr => ∃ i : Nat, i ≤ ws.length ∧ s6 = .int .i64 i ∧ Hid (∀ j, j < i → wF ws j = true) ∧ Below w.heap.size w wr ∧ Blk wr (w.heap.size + 1) 101 #[.int .i64 ts, .slice Aw ws.length cw, .slice Ar rs.length cr] ∧ Blk wr w.heap.size 24 #[.slice (some ⟨b, off, none⟩) H.length c]) (fun s6 _ => ws.length - (intOf s6).toNat)
  case atStart => exact ⟨0, Nat.zero_le _, by go_num, fun j h => absurd h (by omega), hB2, kT, kH2⟩
  case round =>
    clear hB2 kT kH2
    obtain ⟨i, hi, rfl, hall, hb, kT, kH⟩ := hrel
    have hi1 : (0 : Int) ≤ (i : Int) := Int.natCast_nonneg _
    have e1 := kT.cell 1
    simp only [List.getElem?_toArray, List.getElem?_cons_zero, List.getElem?_cons_succ] at e1
    by_cases hlt : i < ws.length
    · have hi2 : (i : Int) < (ws.length : Int) := by omega
      have hW := IntS.keep hws (Agree.below hb fun b h => h) (fun b h => h)
      have hcm := hide (fun m (hm : m < ws.length) => IntS.at_ hW hm)
      obtain ⟨bw, ow, rfl, hbw, ec⟩ := IntS.at_ hW hlt
      have hwf := wF_is hlt hall.out
      have hbad := hide (fun g => hnw.out i hlt g)
      have hgo : Hid (wF ws i = true → ∀ j, j < i + 1 → wF ws j = true) := fun g j hj => by
        by_cases e : j = i
        · subst e; exact g
        · exact hall.out j (by omega)
      by_cases k1 : ws[i] < 0
      · have k1b : decide (ws[i] < 0) = true := by simpa using k1
        replace hwf := hide hwf
        have hno := hide (hbad.out (by rw [← Bool.not_eq_true, hwf.out]; intro g; have := g.1; omega))
        clear hbad hwf hgo
        go_wp2_with fail
        go_quiet (fail)
        go_wp2
        go_ret
        exact ⟨by rw [hno.out]; rfl, belowN hb nq⟩
      · have k1b : decide (ws[i] < 0) = false := by simpa using k1
        by_cases k2 : 15 < ws[i]
        · have k2b : decide (ws[i] > 15) = true := by simpa using k2
          replace hwf := hide hwf
          have hno := hide (hbad.out (by rw [← Bool.not_eq_true, hwf.out]; intro g; have := g.2.1; omega))
          clear hbad hwf hgo
          go_wp2_with fail
          go_quiet (fail)
          go_wp2
          go_ret
          exact ⟨by rw [hno.out]; rfl, belowN hb nq⟩
        · have k2b : decide (ws[i] > 15) = false := by simpa using k2
          by_cases hi0 : i = 0
          · have k3b : decide ((i : Int) > 0) = false := by simp; omega
            have k3c : decide (0 < i) = false := by simp; omega
            replace hwf := hide hwf
            replace hi0 := hide hi0
            have hgo2 := hide (hgo.out (hwf.out.2 ⟨by omega, by omega, fun m hm => by have := hi0.out; omega⟩))
            clear hbad hwf hgo
            go_wp2_with fail
            go_quiet (fail)
            go_wp2
            go_roundw
            case rel => exact ⟨i + 1, by omega, by go_num, hgo2, belowN hb nq, kT, kH⟩
            case measure => simp [intOf]; omega
          · obtain ⟨m, hm⟩ : ∃ m, m + 1 = i := ⟨i - 1, by omega⟩
            have k3b : decide ((i : Int) > 0) = true := by simp; omega
            have k3c : decide (0 < i) = true := by simp; omega
            have k3d : 0 < i := by omega
            have hq : IntKind.i64.wrap ((i : Int) - 1) = (m : Int) := by rw [IntKind.wrap_i64]; omega
            have hm1 : (0 : Int) ≤ (m : Int) := Int.natCast_nonneg _
            have hm2 : (m : Int) < (ws.length : Int) := by omega
            obtain ⟨bw', ow', hA, _, em⟩ := hcm.out m (by omega)
            injection hA with hA
            injection hA with hA1 hA2
            subst hA1 hA2
            have hmi := hide hm
            by_cases k4 : ws[i] ≤ ws[m]'(by omega)
            · have k4b : decide ((ws[m]'(by omega)) ≥ ws[i]) = true := by simpa using k4
              replace hwf := hide hwf
              have hno := hide (hbad.out (by rw [← Bool.not_eq_true, hwf.out]; intro g; have := g.2.2 m hmi.out; omega))
              clear hbad hwf hgo
              go_wp2_with fail
              go_quiet (fail)
              go_wp2
              go_ret
              exact ⟨by rw [hno.out]; rfl, belowN hb nq⟩
            · have k4b : decide ((ws[m]'(by omega)) ≥ ws[i]) = false := by simpa using k4
              replace hwf := hide hwf
              have hgo2 := hide (hgo.out (hwf.out.2 ⟨by omega, by omega, fun m' hm' => by obtain rfl : m' = m := by { have := hmi.out; omega }; omega⟩))
              clear hbad hwf hgo
              go_wp2_with fail
              go_quiet (fail)
              go_wp2
              go_roundw
              case rel => exact ⟨i + 1, by omega, by go_num, hgo2, belowN hb nq, kT, kH⟩
              case measure => simp [intOf]; omega
    · obtain rfl : i = ws.length := by omega
      have hyes3 := hide (fun hr => hyes2.out hall.out hr)
      have e2 := kT.cell 2
      simp only [List.getElem?_toArray, List.getElem?_cons_zero, List.getElem?_cons_succ] at e2
      go_wp2
      clear e1 e2 hall hyes2 hi hlt hi1
      go_loopw [7] (fun s7 wr => ∃ i : Nat, i ≤ rs.length ∧ s7 = .int .i64 i ∧ Hid (∀ j, j < i → rF H n rs j = true) ∧ Below w.heap.size w wr ∧ Blk wr (w.heap.size + 1) 101 #[.int .i64 ts, .slice Aw ws.length cw, .slice Ar rs.length cr] ∧ Blk wr w.heap.size 24 #[.slice (some ⟨b, off, none⟩) H.length c]) (fun s7 _ => rs.length - (intOf s7).toNat)
      case atStart => exact ⟨0, Nat.zero_le _, by go_num, fun j h => absurd h (by omega), hb, kT, kH⟩
      case round =>
        clear hb kT kH
        obtain ⟨i, hi, rfl, hall, hb, kT, kH⟩ := hrel
        have hi1 : (0 : Int) ≤ (i : Int) := Int.natCast_nonneg _
        have e2 := kT.cell 2
        simp only [List.getElem?_toArray, List.getElem?_cons_zero, List.getElem?_cons_succ] at e2
        by_cases hlt : i < rs.length
        · have hi2 : (i : Int) < (rs.length : Int) := by omega
          have hR := ItS.keep hrs (Agree.below hb fun b h => h) (fun b h => h)
          have hcm := hide (fun m (hm : m < rs.length) => ItS.at_ hR hm)
          obtain ⟨br, or_, rfl, hbr, ec0, ec1⟩ := ItS.at_ hR hlt
          have hrk := hide (rF_key (H := H) (n := n) hlt)
          have hwf := wF_is (l := rs.map (·.a)) (i := i) (by rw [List.length_map]; exact hlt) fun j hj => by
            have := hall.out j hj
            rw [rF_key (by omega), Bool.and_eq_true] at this
            exact this.1
          rw [List.getElem_map] at hwf
          have hth := hide (thereB_iff H n rs[i])
          have hbad := hide (fun g => hnr.out i hlt g)
          have hgo : Hid (rF H n rs i = true → ∀ j, j < i + 1 → rF H n rs j = true) := fun g j hj => by
            by_cases e : j = i
            · subst e; exact g
            · exact hall.out j (by omega)
          have hmk := hide (fun m (hm : m < rs.length) => List.getElem_map (fun x : It => x.a) (l := rs) (i := m) (h := by rw [List.length_map]; exact hm))
          generalize hrx : rs[i] = x at *
          replace hrx := hide hrx
          obtain ⟨xa, xb⟩ := x
          dsimp only at ec0 ec1 hwf hth
          have hbA := hb.alloc hb.size (.cells #[.int .i64 xa, .int .i64 xb] 112)
          have kTA := kT.alloc (.cells #[.int .i64 xa, .int .i64 xb] 112)
          have kHA := kH.alloc (.cells #[.int .i64 xa, .int .i64 xb] 112)
          have kX := Blk.new wr 112 #[.int .i64 xa, .int .i64 xb]
          have u0 := kX.cell 0
          have u1 := kX.cell 1
          have y2 := kTA.cell 2
          have z0 := kHA.cell 0
          simp only [List.getElem?_toArray, List.getElem?_cons_zero, List.getElem?_cons_succ] at u0 u1 y2 z0
          replace hwf := hide hwf
          go_wp2_with fail
          clear ec0 ec1 e2 hb kT kH
          generalize hWA : wr.alloc (.cells #[.int .i64 xa, .int .i64 xb] 112) = WA at *
          replace hcm := hide (fun m (hm : m < rs.length) => ItS.at_ (ItS.keep hrs (Agree.below hbA fun b h => h) (fun b h => h)) hm)
          clear hWA hR
          generalize wr.heap.size = N8 at *
          by_cases k1 : xa < 0
          · have k1b : decide (xa < 0) = true := by simpa using k1
            have hno := hide (hbad.out (by rw [hrk.out, Bool.and_eq_false_iff]; left; rw [← Bool.not_eq_true, hwf.out]; intro g; have := g.1; omega))
            clear hbad hwf hgo hth hrk
            go_quiet (fail)
            go_wp2
            go_ret
            exact ⟨by rw [hno.out]; rfl, belowN hbA nq⟩
          · have k1b : decide (xa < 0) = false := by simpa using k1
            by_cases k2 : 15 < xa
            · have k2b : decide (xa > 15) = true := by simpa using k2
              have hno := hide (hbad.out (by rw [hrk.out, Bool.and_eq_false_iff]; left; rw [← Bool.not_eq_true, hwf.out]; intro g; have := g.2.1; omega))
              clear hbad hwf hgo hth hrk
              go_quiet (fail)
              go_wp2
              go_ret
              exact ⟨by rw [hno.out]; rfl, belowN hbA nq⟩
            · have k2b : decide (xa > 15) = false := by simpa using k2
              by_cases hi0 : i = 0
              · have k3b : decide ((i : Int) > 0) = false := by simp; omega
                have k3c : decide (0 < i) = false := by simp; omega
                have hwt := hide (hwf.out.2 ⟨by omega, by omega, fun m hm => by omega⟩)
                clear hi0
                by_cases g5 : xb < -1
                · have g5b : decide (xb < -1) = true := by simpa using g5
                  have hno := hide (hbad.out (by rw [hrk.out, Bool.and_eq_false_iff]; right; rw [← Bool.not_eq_true, hth.out]; exact fun g => g.elim (fun e => by omega) (fun ⟨k, hk, e, _⟩ => by omega)))
                  clear hbad hwf hgo hth hrk
                  go_quiet (fail)
                  go_wp2
                  go_ret
                  exact ⟨by rw [hno.out]; rfl, belowN hbA nq⟩
                · have g5b : decide (xb < -1) = false := by simpa using g5
                  by_cases g6 : (H.length : Int) ≤ xb
                  · have g6b : decide (xb ≥ (H.length : Int)) = true := by simpa using g6
                    have hno := hide (hbad.out (by rw [hrk.out, Bool.and_eq_false_iff]; right; rw [← Bool.not_eq_true, hth.out]; exact fun g => g.elim (fun e => by omega) (fun ⟨k, hk, e, _⟩ => by omega)))
                    clear hbad hwf hgo hth hrk
                    go_quiet (fail)
                    go_wp2
                    go_ret
                    exact ⟨by rw [hno.out]; rfl, belowN hbA nq⟩
                  · have g6b : decide (xb ≥ (H.length : Int)) = false := by simpa using g6
                    by_cases g7 : xb = (n : Int)
                    · have g7b : (xb == (n : Int)) = true := by simpa using g7
                      replace g7 := hide g7
                      have hno := hide (hbad.out (by rw [hrk.out, Bool.and_eq_false_iff]; right; rw [← Bool.not_eq_true, hth.out]; have g7 := g7.out; exact fun g => g.elim (fun e => by omega) (fun ⟨k, hk, e, hkn, _⟩ => by omega)))
                      clear hbad hwf hgo hth hrk
                      go_quiet (fail)
                      go_wp2
                      go_ret
                      exact ⟨by rw [hno.out]; rfl, belowN hbA nq⟩
                    · have g7b : (xb == (n : Int)) = false := by simpa using g7
                      by_cases g8 : xb < 0
                      · have g8b : decide (xb < 0) = true := by simpa using g8
                        have hgo2 := hide (hgo.out (by rw [hrk.out, hwt.out, hth.out.2 (.inl (by omega))]; rfl))
                        clear hbad hwf hgo hth hrk hwt
                        go_quiet (fail)
                        go_wp2
                        go_roundw
                        case rel => exact ⟨i + 1, by omega, by go_num, hgo2, belowN hbA nq, kTA, kHA⟩
                        case measure => simp [intOf]; omega
                      · have g8b : decide (xb < 0) = false := by simpa using g8
                        have hm' : xb.toNat < H.length := by omega
                        have hm3 : 0 ≤ xb := by omega
                        have hm4 : xb < (H.length : Int) := by omega
                        obtain ⟨b', off', Aw', cw', Ar', cr', hA', hbK', p0, p1, p2, hws', _⟩ := TxnS.at_ (TxnS.keep h (Agree.below hbA fun b h => h) (fun b h => h)) hm'
                        injection hA' with hA'
                        injection hA' with hA1 hA2
                        subst hA1 hA2
                        have hl' := hAll.out xb.toNat hm'
                        have hrf : rF H n rs i = (H[xb.toNat].writes.contains xa) := by
                          rw [hrk.out, hwt.out, Bool.true_and, Bool.eq_iff_iff, hth.out, List.contains_iff_mem]
                          refine ⟨?_, fun g => .inr ⟨xb.toNat, hm', by omega, by omega, g⟩⟩
                          rintro (e | ⟨k, hk, e, _, g⟩)
                          · omega
                          · obtain rfl : k = xb.toNat := by omega
                            exact g
                        have hbad2 := hide (fun (g : H[xb.toNat].writes.contains xa = false) => hbad.out (hrf.trans g))
                        have hgo2 := hide (fun (g : H[xb.toNat].writes.contains xa = true) => hgo.out (hrf.trans g))
                        clear hbad hwf hgo hth hrk hwt hrf g5 g6 g7
                        generalize H[xb.toNat].writes = ws' at *
                        generalize H[xb.toNat].sess = ts' at *
                        go_quiet (fail)
                        go_wp2_with fail
                        refine wp_region_plan [0, 1, 2, 3, 4, 5, 6, 7] [8, 9] (by kernel_rfl) (by kernel_rfl) (fun _ _ d _ _ h => by cases d <;> exact h) ?_
                        simp only [List.filterMap_cons, List.filterMap_nil, List.getElem?_cons_zero, List.getElem?_cons_succ]
                        repeat still_step
                        refine wpStill_nil ?_
                        go_wp2_with fail
                        refine (writes08_any ts' Aw' cw' ws' _ xa (Old w) (WA.drewN (nq + 1)) (IntS.keep hws' (Agree.drewN _ _ _) (fun b h => h)) (fun b h => Nat.lt_of_lt_of_le h hbA.size) (by unfold maxLen; omega)).mono ?_
                        rintro e W9 ⟨rfl, hb9⟩
                        have kT9 := Blk.below (w := WA) kTA ⟨hb9.os, hb9.tape, hb9.output, hb9.size, hb9.block⟩ kTA.lt
                        have kH9 := Blk.below (w := WA) kHA ⟨hb9.os, hb9.tape, hb9.output, hb9.size, hb9.block⟩ kHA.lt
                        have hbF := (belowN hbA (nq + 1)).trans (hb9.mono hbA.size)
                        generalize ws'.contains xa = cb at *
                        cases cb with
                        | false =>
                          have hno := hide (hbad2.out rfl)
                          go_wp2
                          go_ret
                          exact ⟨by rw [hno.out]; rfl, hbF⟩
                        | true =>
                          have hgo3 := hide (hgo2.out rfl)
                          go_wp2
                          go_roundw
                          case rel => exact ⟨i + 1, by omega, by go_num, hgo3, hbF, kT9, kH9⟩
                          case measure => simp [intOf]; omega
              · obtain ⟨m, hm⟩ : ∃ m, m + 1 = i := ⟨i - 1, by omega⟩
                have k3b : decide ((i : Int) > 0) = true := by simp; omega
                have k3c : decide (0 < i) = true := by simp; omega
                have k3d : 0 < i := by omega
                have hq : IntKind.i64.wrap ((i : Int) - 1) = (m : Int) := by rw [IntKind.wrap_i64]; omega
                have hm1 : (0 : Int) ≤ (m : Int) := Int.natCast_nonneg _
                have hm2 : (m : Int) < (rs.length : Int) := by omega
                obtain ⟨bw', ow', hA, _, em, _⟩ := hcm.out m (by omega)
                injection hA with hA
                injection hA with hA1 hA2
                subst hA1 hA2
                have hme := hmk.out m (by omega)
                generalize (rs[m]'(by omega)).a = pv at *
                replace hme := hide hme
                have hmi := hide hm
                clear hi0
                by_cases k4 : xa ≤ pv
                · have k4b : decide (pv ≥ xa) = true := by simpa using k4
                  have hno := hide (hbad.out (by rw [hrk.out, Bool.and_eq_false_iff]; left; rw [← Bool.not_eq_true, hwf.out]; intro g; have := g.2.2 m hmi.out; rw [hme.out] at this; omega))
                  clear hbad hwf hgo hth hrk
                  go_quiet (fail)
                  go_wp2
                  go_ret
                  exact ⟨by rw [hno.out]; rfl, belowN hbA nq⟩
                · have k4b : decide (pv ≥ xa) = false := by simpa using k4
                  have hwt := hide (hwf.out.2 ⟨by omega, by omega, fun m' hm' => by
                    obtain rfl : m' = m := by have := hmi.out; omega
                    rw [hme.out]; omega⟩)
                  by_cases g5 : xb < -1
                  · have g5b : decide (xb < -1) = true := by simpa using g5
                    have hno := hide (hbad.out (by rw [hrk.out, Bool.and_eq_false_iff]; right; rw [← Bool.not_eq_true, hth.out]; exact fun g => g.elim (fun e => by omega) (fun ⟨k, hk, e, _⟩ => by omega)))
                    clear hbad hwf hgo hth hrk
                    go_quiet (fail)
                    go_wp2
                    go_ret
                    exact ⟨by rw [hno.out]; rfl, belowN hbA nq⟩
                  · have g5b : decide (xb < -1) = false := by simpa using g5
                    by_cases g6 : (H.length : Int) ≤ xb
                    · have g6b : decide (xb ≥ (H.length : Int)) = true := by simpa using g6
                      have hno := hide (hbad.out (by rw [hrk.out, Bool.and_eq_false_iff]; right; rw [← Bool.not_eq_true, hth.out]; exact fun g => g.elim (fun e => by omega) (fun ⟨k, hk, e, _⟩ => by omega)))
                      clear hbad hwf hgo hth hrk
                      go_quiet (fail)
                      go_wp2
                      go_ret
                      exact ⟨by rw [hno.out]; rfl, belowN hbA nq⟩
                    · have g6b : decide (xb ≥ (H.length : Int)) = false := by simpa using g6
                      by_cases g7 : xb = (n : Int)
                      · have g7b : (xb == (n : Int)) = true := by simpa using g7
                        replace g7 := hide g7
                        have hno := hide (hbad.out (by rw [hrk.out, Bool.and_eq_false_iff]; right; rw [← Bool.not_eq_true, hth.out]; have g7 := g7.out; exact fun g => g.elim (fun e => by omega) (fun ⟨k, hk, e, hkn, _⟩ => by omega)))
                        clear hbad hwf hgo hth hrk
                        go_quiet (fail)
                        go_wp2
                        go_ret
                        exact ⟨by rw [hno.out]; rfl, belowN hbA nq⟩
                      · have g7b : (xb == (n : Int)) = false := by simpa using g7
                        by_cases g8 : xb < 0
                        · have g8b : decide (xb < 0) = true := by simpa using g8
                          have hgo2 := hide (hgo.out (by rw [hrk.out, hwt.out, hth.out.2 (.inl (by omega))]; rfl))
                          clear hbad hwf hgo hth hrk hwt
                          go_quiet (fail)
                          go_wp2
                          go_roundw
                          case rel => exact ⟨i + 1, by omega, by go_num, hgo2, belowN hbA nq, kTA, kHA⟩
                          case measure => simp [intOf]; omega
                        · have g8b : decide (xb < 0) = false := by simpa using g8
                          have hm' : xb.toNat < H.length := by omega
                          have hm3 : 0 ≤ xb := by omega
                          have hm4 : xb < (H.length : Int) := by omega
                          obtain ⟨b', off', Aw', cw', Ar', cr', hA', hbK', p0, p1, p2, hws', _⟩ := TxnS.at_ (TxnS.keep h (Agree.below hbA fun b h => h) (fun b h => h)) hm'
                          injection hA' with hA'
                          injection hA' with hA1 hA2
                          subst hA1 hA2
                          have hl' := hAll.out xb.toNat hm'
                          have hrf : rF H n rs i = (H[xb.toNat].writes.contains xa) := by
                            rw [hrk.out, hwt.out, Bool.true_and, Bool.eq_iff_iff, hth.out, List.contains_iff_mem]
                            refine ⟨?_, fun g => .inr ⟨xb.toNat, hm', by omega, by omega, g⟩⟩
                            rintro (e | ⟨k, hk, e, _, g⟩)
                            · omega
                            · obtain rfl : k = xb.toNat := by omega
                              exact g
                          have hbad2 := hide (fun (g : H[xb.toNat].writes.contains xa = false) => hbad.out (hrf.trans g))
                          have hgo2 := hide (fun (g : H[xb.toNat].writes.contains xa = true) => hgo.out (hrf.trans g))
                          clear hbad hwf hgo hth hrk hwt hrf g5 g6 g7
                          generalize H[xb.toNat].writes = ws' at *
                          generalize H[xb.toNat].sess = ts' at *
                          go_quiet (fail)
                          go_wp2_with fail
                          refine wp_region_plan [0, 1, 2, 3, 4, 5, 6, 7] [8, 9] (by kernel_rfl) (by kernel_rfl) (fun _ _ d _ _ h => by cases d <;> exact h) ?_
                          simp only [List.filterMap_cons, List.filterMap_nil, List.getElem?_cons_zero, List.getElem?_cons_succ]
                          repeat still_step
                          refine wpStill_nil ?_
                          go_wp2_with fail
                          refine (writes08_any ts' Aw' cw' ws' _ xa (Old w) (WA.drewN (nq + 1)) (IntS.keep hws' (Agree.drewN _ _ _) (fun b h => h)) (fun b h => Nat.lt_of_lt_of_le h hbA.size) (by unfold maxLen; omega)).mono ?_
                          rintro e W9 ⟨rfl, hb9⟩
                          have kT9 := Blk.below (w := WA) kTA ⟨hb9.os, hb9.tape, hb9.output, hb9.size, hb9.block⟩ kTA.lt
                          have kH9 := Blk.below (w := WA) kHA ⟨hb9.os, hb9.tape, hb9.output, hb9.size, hb9.block⟩ kHA.lt
                          have hbF := (belowN hbA (nq + 1)).trans (hb9.mono hbA.size)
                          generalize ws'.contains xa = cb at *
                          cases cb with
                          | false =>
                            have hno := hide (hbad2.out rfl)
                            go_wp2
                            go_ret
                            exact ⟨by rw [hno.out]; rfl, hbF⟩
                          | true =>
                            have hgo3 := hide (hgo2.out rfl)
                            go_wp2
                            go_roundw
                            case rel => exact ⟨i + 1, by omega, by go_num, hgo3, hbF, kT9, kH9⟩
                            case measure => simp [intOf]; omega
        · obtain rfl : i = rs.length := by omega
          have hr := hide (hyes3.out hall.out)
          go_wp2
          go_ret
          exact ⟨by rw [hr.out]; rfl, hb⟩
end Go.Proofs.YtjomijnbnbideaaGreatDoor

namespace Go.Proofs.YtjomijnbnbideaaGreatDoor
open Go.RowKit Go.Inq
set_option maxHeartbeats 8000000
attribute [local go_sem ↓] Go.wp_at_zero Go.wp_at_succ

/-- Row t's edges to the first w nodes, where P holds. -/
def rowE (t w : Nat) (P : Nat → Bool) : Edges := fun a b => decide (a = t) && (decide (b < w) && P b)
theorem rowE_zero (E : Edges) (t : Nat) (P : Nat → Bool) : orE E (rowE t 0 P) = E := by
  funext a b; simp [orE, rowE]
theorem rowE_step {E : Edges} {t w : Nat} {P : Nat → Bool} (h : P w = true) : orE E (rowE t (w + 1) P) = orE (orE E (rowE t w P)) (oneE t w) := by
  funext a b
  unfold orE rowE oneE
  by_cases e : b = w
  · subst e; simp [h]
  · have : decide (b < w + 1) = decide (b < w) := by simp; omega
    simp [e, this]
theorem rowE_skip {E : Edges} {t w : Nat} {P : Nat → Bool} (h : P w = false) : orE E (rowE t (w + 1) P) = orE E (rowE t w P) := by
  funext a b
  unfold orE rowE
  by_cases e : b = w
  · subst e; simp [h]
  · have : decide (b < w + 1) = decide (b < w) := by simp; omega
    simp [this]
/-- Does a read see what was there at first, that b writes over? -/
def inP (H : List Txn) (t : Nat) (r : It) (b : Nat) : Bool := decide (t ≠ b) && (decide (r.b = -1) && (txnAt H b).writes.contains r.a)
/-- Who reads what was there at first, of the readers ahead of t, and the first i reads of t. -/
def inTo (H : List Txn) (t i : Nat) : Edges := fun a b => (decide (a < t) && (txnAt H a).reads.any fun r => inP H a r b) || (decide (a = t) && ((txnAt H a).reads.take i).any fun r => inP H a r b)
theorem inTo_zero (H : List Txn) : inTo H 0 0 = noE := by
  funext a b
  simp [inTo, noE]
theorem inTo_step {H : List Txn} {t i : Nat} {R : List It} (hR : (txnAt H t).reads = R) (hi : i < R.length) {n a b : Nat} (hb : b < n) : orE (inTo H t i) (rowE t n (inP H t R[i])) a b = inTo H t (i + 1) a b := by
  subst hR
  unfold orE inTo rowE
  by_cases e : a = t
  · subst e
    rw [List.take_succ_eq_append_getElem hi, List.any_append]
    simp [hb]
  · simp [e]
theorem inTo_row {H : List Txn} {t : Nat} {R : List It} (hR : (txnAt H t).reads = R) : inTo H t R.length = inTo H (t + 1) 0 := by
  subst hR
  funext a b
  unfold inTo
  by_cases e : a = t
  · subst e
    rw [List.take_length]
    simp
  · have : decide (a < t + 1) = decide (a < t) := by simp; omega
    simp [e, this]
theorem inTo_all {H : List Txn} {a b : Nat} (ha : a < H.length) : inTo H H.length 0 a b = initE H a b := by
  unfold inTo initE inP
  simp only [ha, decide_true, Bool.true_and, List.take_zero, List.any_nil, Bool.and_false, Bool.or_false]
  rw [Bool.eq_iff_iff]
  simp only [List.any_eq_true, Bool.and_eq_true]
  constructor
  · rintro ⟨r, h1, h2, h3⟩; exact ⟨h2, r, h1, h3⟩
  · rintro ⟨h2, r, h1, h3⟩; exact ⟨r, h1, h2, h3⟩
set_option maxRecDepth 100000 in
theorem rinit17_any (A : Option Addr) (c : Nat) (H : List Txn) (w : World) (h : TxnS w (Old w) (.slice A H.length c) H) (hr : rightH H = true) (hn : SmallH H) :
    Calls Tryz.prog 184 #[.agg #[.slice A H.length c]] w (OutR w H.length (initE H)) := by
  have hn64 : H.length ≤ 64 := by have := ((rightH_iff H).1 hr).1; omega
  clear hr
  go_enter Tryz.func184, Tryz.ntmps184
  go_upto_region 1 with fail
  obtain ⟨W0, hW0⟩ : ∃ W0, (w.alloc (.cells #[.slice A H.length c] 24)).alloc (.cells #[.int .i64 0, .slice none 0 0] 124) = W0 := ⟨_, rfl⟩
  rw [hW0]
  have hb := below_two hW0
  have k1 := Blk.two1 hW0
  have k3 := Blk.two2 hW0
  have s0 := size_two hW0
  have hT := hide (h.below hb)
  clear hW0 h
  have c0 := k1.cell 0
  simp only [List.getElem?_toArray, List.getElem?_cons_zero, List.getElem?_cons_succ] at c0
  replace s0 := hide s0
  go_wp2_with fail
  refine (rnew12_any H.length hn64 W0).mono ?_
  rintro e w1 ⟨v, rfl, hR, hb1⟩
  clear c0
  obtain ⟨Av, cv, rfl, -⟩ := hR.gr hn64 (K := fun _ => True) (fun _ _ _ => trivial)
  go_upto_region 2 with fail
  obtain ⟨W5, hW5⟩ : ∃ W5, w1.alloc (.cells #[.int .i64 (H.length : Int), .slice Av H.length cv] 124) = W5 := ⟨_, rfl⟩
  rw [hW5]
  have hP := RGP.start hR hn64 hW5
  have hs1 := hb1.size
  have hb5 := below_allocEq hb1 hW5 hs1
  clear hW5 hR hb1
  go_wp2_with fail
  go_loopw [4] (fun s4 wr => ∃ x : Nat, x ≤ H.length ∧ s4 = .int .i64 x ∧ RGP wr W0.heap.size w1.heap.size H.length (inTo H x 0) Av cv ∧ Below W0.heap.size W0 wr) (fun s4 _ => H.length - (intOf s4).toNat)
  case atStart => exact ⟨0, Nat.zero_le _, by go_num, by rw [inTo_zero]; exact hP, hb5⟩
  case round =>
    obtain ⟨x, hx, rfl, hPr, hbr⟩ := hrel
    have hx1 : (0 : Int) ≤ (x : Int) := Int.natCast_nonneg _
    have c0 := hPr.c0
    have c1 := hPr.c1
    by_cases hlt : x < H.length
    · have hx2 : (x : Int) < (H.length : Int) := by omega
      obtain ⟨bt, ot, Aw, cw, Ar, cr, hA, hKb, -, -, d2, -, hrs⟩ := hT.out.at_ hlt
      subst hA
      replace d2 := (hbr.cell (p := ⟨bt, ot + x * 3 + 2, none⟩) hKb).trans d2
      have k1q := k1.below hbr k1.lt
      have a0 := k1q.cell 0
      simp only [List.getElem?_toArray, List.getElem?_cons_zero, List.getElem?_cons_succ] at a0
      obtain ⟨R, hR⟩ : ∃ R, H[x].reads = R := ⟨_, rfl⟩
      have hRt : (txnAt H x).reads = R := by rw [txnAt_of hlt]; exact hR
      have hR9 : R.length ≤ 1000000 := by rw [← hR]; exact (hn.2 _ (List.getElem_mem hlt)).2
      rw [hR] at hrs d2
      clear hR
      replace hRt := hide hRt
      replace hrs := hide hrs
      go_wp2_with fail
      clear c0 c1 a0 d2 k1q
      go_loopw [6] (fun s6 wq => ∃ i : Nat, i ≤ R.length ∧ s6 = .int .i64 i ∧ RGP wq W0.heap.size w1.heap.size H.length (inTo H x i) Av cv ∧ Below W0.heap.size W0 wq) (fun s6 _ => R.length - (intOf s6).toNat)
      case atStart => exact ⟨0, Nat.zero_le _, by go_num, hPr, hbr⟩
      case round =>
        obtain ⟨i, hi, rfl, hPi, hbi⟩ := hrel
        have hi1 : (0 : Int) ≤ (i : Int) := Int.natCast_nonneg _
        by_cases hlq : i < R.length
        · have hi2 : (i : Int) < (R.length : Int) := by omega
          clear hPr
          have hend := hide (fun a b (hb : b < H.length) => inTo_step (a := a) hRt.out hlq hb)
          have hRi : Hid (∀ wq, Below W0.heap.size W0 wq → ∃ b off, Ar = some ⟨b, off, none⟩ ∧ wq.cell? ⟨b, off + i * 2, none⟩ = some (.int .i64 R[i].a) ∧ wq.cell? ⟨b, off + i * 2 + 1, none⟩ = some (.int .i64 R[i].b)) := hide fun wq hq => by
            obtain ⟨b, off, g1, -, g2, g3⟩ := (hrs.out.below hq).at_ hlq
            exact ⟨b, off, g1, g2, g3⟩
          generalize R[i] = r at *
          go_wp2_with fail
          go_loopw [7] (fun s7 wq => ∃ y : Nat, y ≤ H.length ∧ s7 = .int .i64 y ∧ RGP wq W0.heap.size w1.heap.size H.length (orE (inTo H x i) (rowE x y (inP H x r))) Av cv ∧ Below W0.heap.size W0 wq) (fun s7 _ => H.length - (intOf s7).toNat)
          case atStart => exact ⟨0, Nat.zero_le _, by go_num, by rw [rowE_zero]; exact hPi, hbi⟩
          case round =>
            obtain ⟨y, hy, rfl, hPy, hby⟩ := hrel
            have hy1 : (0 : Int) ≤ (y : Int) := Int.natCast_nonneg _
            have c0 := hPy.c0
            by_cases hly : y < H.length
            · have hy2 : (y : Int) < (H.length : Int) := by omega
              obtain ⟨br, orr, rfl, z0, -⟩ := hRi.out _ hby
              obtain ⟨bt', ot', Aw', cw', Ar', cr', e', hKb', d0, d1, d2, hws, -⟩ := (hT.out.below hby).at_ hly
              injection e' with e'
              injection e' with e1 e2
              subst e1 e2
              have k1y := k1.below hby k1.lt
              have a0 := k1y.cell 0
              simp only [List.getElem?_toArray, List.getElem?_cons_zero, List.getElem?_cons_succ] at a0
              have hwl : H[y].writes.length ≤ maxLen := by have := (hn.2 _ (List.getElem_mem hly)).1; unfold maxLen; omega
              have hst := hide (rowE_step (E := inTo H x i) (t := x) (w := y) (P := inP H x r))
              have hsk := hide (rowE_skip (E := inTo H x i) (t := x) (w := y) (P := inP H x r))
              have hinP : Hid (inP H x r y = (decide (x ≠ y) && (decide (r.b = -1) && H[y].writes.contains r.a))) := hide (by unfold inP; rw [txnAt_of hly])
              have hcw := hide (writes08_any H[y].sess Aw' cw' H[y].writes (.slice Ar' H[y].reads.length cr') r.a (Old wr) wr.drew (hws.keep (Agree.drew _ _) (fun b h => h)) (fun b h => h) hwl)
              generalize H[y].writes = L at *
              generalize H[y].sess = sy at *
              generalize H[y].reads = Ry at *
              generalize L.contains r.a = cb at *
              go_wp2_with fail
              refine wp_region_still_tail 10 (by kernel_rfl) (by kernel_rfl) ?_
              simp only [List.take_succ_cons, List.take_zero, List.drop_succ_cons, List.drop_zero]
              repeat still_step
              refine wpStill_nil ?_
              go_wp2_with fail
              refine hcw.out.mono ?_
              rintro e w3 ⟨rfl, hb3⟩
              have hb4 := (below_drew hby).trans (hb3.mono hby.size)
              have hP4 := hPy.drew.below hb3 (Nat.le_refl _)
              obtain ⟨br', or', e', -, z1⟩ := hRi.out _ hb4
              injection e' with e'
              injection e' with e1 e2
              subst e1 e2
              clear hcw hPy hPi hbi hby hb3 a0 d0 d1 d2 hws c0 k1y z0
              cases cb with
              | false =>
                have hE2 := hide (hsk.out (by rw [hinP.out]; simp))
                clear hst hsk hinP
                go_wp2
                go_roundw
                case rel => exact ⟨y + 1, by omega, by go_num, by rw [hE2.out]; exact hP4, hb4⟩
                case measure => simp [intOf]; omega
              | true =>
                by_cases hm1 : r.b = -1
                · have hmb : (r.b == (-1)) = true := by simpa using hm1
                  by_cases hxy : x = y
                  · have hxb : ((y : Int) != (x : Int)) = false := by subst hxy; simp
                    have hE2 := hide (hsk.out (by rw [hinP.out]; simp [hxy]))
                    clear hst hsk hinP hm1 hxy
                    go_wp2
                    go_roundw
                    case rel => exact ⟨y + 1, by omega, by go_num, by rw [hE2.out]; exact hP4, hb4⟩
                    case measure => simp [intOf]; omega
                  · have hxb : ((y : Int) != (x : Int)) = true := by simp; omega
                    have hE2 := hide (hst.out (by rw [hinP.out]; simp [hxy, hm1]))
                    go_wp2_with fail
                    clear z1 hmb hxb hm1 hxy
                    obtain ⟨g, rfl, hX⟩ := hP4.at_ hlt
                    have hP5 := hide (hX.add (y := y) hlt hly).drew
                    have hb5 := hide (below_drew (hb4.setCell (p := ⟨g, x, none⟩) hX.B (.int .u64 (withB (setB ((orE (inTo H x i) (rowE x y (inP H x r))) x) H.length) (y : Int) : Nat))))
                    obtain ⟨-, c0, c1, d0, df, gp, gl, -, h64⟩ := hX
                    clear hst hsk hinP hP4 hb4
                    generalize setB ((orE (inTo H x i) (rowE x y (inP H x r))) x) H.length = s at *
                    go_upto_region 14 with fail
                    refine wp_region_still_tail 11 (by kernel_rfl) (by kernel_rfl) ?_
                    simp only [List.take_succ_cons, List.take_zero, List.drop_succ_cons, List.drop_zero]
                    repeat still_step
                    still_call ((rwith10_any _ h64 _ _).mono fun _ _ h => ⟨h.1, h.2.symm⟩)
                    repeat still_step
                    refine wpStill_nil ?_
                    change wpList _ _ _ _ _ (w3).drew
                    go_wp2
                    go_roundw
                    case rel => exact ⟨y + 1, by omega, by go_num, by rw [hE2.out]; exact hP5.out, hb5.out⟩
                    case measure => simp [intOf]; omega
                · have hmb : (r.b == (-1)) = false := by simpa using hm1
                  have hE2 := hide (hsk.out (by rw [hinP.out]; simp [hm1]))
                  clear hst hsk hinP hm1
                  go_wp2
                  go_roundw
                  case rel => exact ⟨y + 1, by omega, by go_num, by rw [hE2.out]; exact hP4, hb4⟩
                  case measure => simp [intOf]; omega
            · obtain rfl : y = H.length := by omega
              have hP4 := hide (hPy.congr (F := inTo H x (i + 1)) fun a b _ hb => hend.out a b hb)
              clear hPy hPi
              go_wp2
              go_roundw
              case rel => exact ⟨i + 1, by omega, by go_num, hP4.out, hby⟩
              case measure => simp [intOf]; omega
        · obtain rfl : i = R.length := by omega
          rw [inTo_row hRt.out] at hPi
          clear hPr
          go_wp2
          go_roundw
          case rel => exact ⟨x + 1, by omega, by go_num, hPi, hbi⟩
          case measure => simp [intOf]; omega
    · obtain rfl : x = H.length := by omega
      have hP4 := hPr.congr (F := initE H) fun a b ha _ => inTo_all ha
      have k3r := k3.below hbr k3.lt
      have f0 := k3r.frozen 0
      have f1 := k3r.frozen 1
      have e0 := k3r.cell 0
      have e1 := k3r.cell 1
      have hs0 := s0.out
      have hs3 : w.heap.size + 1 < W0.heap.size := k3.lt
      have hR := hide (((hP4.rg.far (p := ⟨w.heap.size + 1, 0, none⟩) hs3 (.int .i64 H.length)).far (p := ⟨w.heap.size + 1, 1, none⟩) hs3 (.slice Av H.length cv)).base (B' := w.heap.size) (by omega))
      have hz := hide (((hb.trans (hbr.mono hb.size)).setCell (p := ⟨w.heap.size + 1, 0, none⟩) (by simp; try omega) (.int .i64 H.length)).setCell (p := ⟨w.heap.size + 1, 1, none⟩) (by simp; try omega) (.slice Av H.length cv))
      have hq := (k3r.set_ 0 (.int .i64 H.length)).set_ 1 (.slice Av H.length cv)
      simp only [List.setIfInBounds_toArray, List.set_cons_zero, List.set_cons_succ] at hq
      have y0 := hq.cell 0
      have y1 := hq.cell 1
      simp only [List.getElem?_toArray, List.getElem?_cons_zero, List.getElem?_cons_succ] at y0 y1 e0 e1
      clear hq hs0 hs3
      go_wp2_with fail
      exact bodyPost_ret (v := .agg #[.int .i64 H.length, .slice Av H.length cv]) (by simp [results, Tryz.results184, go_sem, y0, y1]) rfl ⟨_, rfl, hR.out, hz.out⟩
end Go.Proofs.YtjomijnbnbideaaGreatDoor
