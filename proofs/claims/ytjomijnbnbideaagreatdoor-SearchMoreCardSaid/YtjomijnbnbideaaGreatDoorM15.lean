/-
  A region that draws its order, by a plan with alternatives: the row may go on in several ways.
-/
import Derived.Test.YtjomijnbnbideaaGreatDoorM02
import Derived.Test.YtjomijnbnbideaaGreatDoorM14
set_option linter.unusedVariables false
set_option linter.unusedSimpArgs false
namespace Go.Inq
open Go
section
variable {P : Program} {ops : Array Oper} {Q : Exit → Act → World → Prop} {md : Region.Mode}

def tailsOf (i : Nat) (tss : List (List Nat)) : List (List Nat) :=
  tss.filterMap fun r => match r with
    | t :: r' => if t = i then some r' else none
    | [] => none

def wpAlt (P : Program) (ops : Array Oper) (Q : Exit → Act → World → Prop) : Nat → List (List Nat) → Act → World → Prop
  | 0, _, a, w => Q .normal a w
  | n + 1, tss, a, w => ∀ i ∈ tss.filterMap List.head?, wpOp P ops Q i (wpAlt P ops Q n (tailsOf i tss)) a w

def tailsB (md : Region.Mode) (ops : Array Oper) (us : List Nat) : Nat → List (List Nat) → Array Bool → Bool
  | 0, _, listed => (Region.ready md ops listed).isEmpty
  | n + 1, tss, listed =>
    (match tss.filterMap List.head? with
      | t :: r => r.all (· == t) && us.contains t && (Region.ready md ops listed).contains t && Region.free md ops listed t && (match ops[t]? with | some o => calmOp o.op | none => false) &&
          tailsB md ops us n (tailsOf t tss) (listed.setIfInBounds t true)
      | [] => false) ||
    (!(Region.ready md ops listed).isEmpty && (Region.ready md ops listed).all fun i => (tss.filterMap List.head?).contains i && us.contains i && tailsB md ops us n (tailsOf i tss) (listed.setIfInBounds i true))

def stillOp : Op → Bool
  | .move _ | .assign _ | .pick .. | .build .. | .indexAddr .. | .extract .. | .makeFunc .. | .nilCheck _ | .load .. => true
  | _ => false

theorem stillOp_spec {ρ : Operand → Value} {o : Oper} (h : stillOp o.op = true) {w w' : World} {n : Next} (hr : (execOp ρ o).run P w = .ok n w') : w' = w ∧ ∃ v, n = .value v := by
  by_cases hl : loadOp o.op = true
  · cases ho : o.op <;> rw [ho] at hl <;> simp [loadOp] at hl
    case load t x =>
      have e : execOp ρ o = (do Pure.pure (.value (← Instr.loadAt t (ρ x)))) := by unfold execOp; rw [ho]
      have hv := valueOp_spec (P := P) (ρ := ρ) (o := o) (by rw [ho]; rfl) hr
      rw [e] at hr
      exact ⟨(Stb.bind (Stb.loadAt _ _) (fun _ => (Clear.pure _).stb) P _ _ _ hr).1, hv⟩
  · have hw : worldless P o.op = true := by cases ho : o.op <;> rw [ho] at h hl <;> simp [stillOp, loadOp] at h hl <;> rfl
    have hv := valueOp_spec (P := P) (ρ := ρ) (o := o) (by cases ho : o.op <;> rw [ho] at h hl <;> simp [stillOp, loadOp] at h hl <;> rfl) hr
    refine ⟨?_, hv⟩
    have := (worldless_spec hw hr w).symm.trans hr
    injection this with _ e
    exact e.symm

theorem wpOp_still {t : Nat} {o : Oper} {a : Act} {w : World} {K : Act → World → Prop} (ho : ops[t]? = some o) (hc : stillOp o.op = true) (h : wpOp P ops Q t K a w) : wpOp P ops Q t (fun a' w' => w' = w ∧ K a' w') a w := by
  unfold wpOp at *
  rw [ho] at h ⊢
  dsimp only at *
  by_cases hw : Region.wanted o (yielded ops a.tmps) = true
  · rw [if_pos hw] at h ⊢
    refine h.imp (fun h => ?_) id
    unfold Oper.wp at *
    generalize hr : (execOp a.eval o).run P w = r at *
    cases r with
    | halt x w' => cases x <;> simp only [Oper.upon] at h ⊢ <;> exact h
    | ok n w' =>
      obtain ⟨he, v, rfl⟩ := stillOp_spec hc hr
      exact ⟨he, h⟩
  · rw [if_neg hw] at h ⊢
    exact ⟨rfl, h⟩

def classA (ops : Array Oper) (us : List Nat) (j : Nat) : Nat :=
  if us.contains j then (match ops[j]? with | some o => if allocOp o.op then 1 else if stillOp o.op then 0 else 2 | none => 0) else 0

theorem cls_of_op {us : List Nat} {t : Nat} (hf : us.contains t = true) {K : Act → World → Prop} {a : Act} {w : World} (h : wpOp P ops Q t K a w) :
    wpOp P ops Q t (fun a' w' => ((classA ops us t = 0 → w' = w) ∧ (classA ops us t = 1 → Ext w w')) ∧ K a' w') a w := by
  cases ho : ops[t]? with
  | none => unfold wpOp at *; rw [ho] at h ⊢; exact ⟨⟨fun _ => rfl, fun _ => Ext.refl _⟩, h⟩
  | some o =>
    have e : classA ops us t = if allocOp o.op then 1 else if stillOp o.op then 0 else 2 := by unfold classA; rw [if_pos hf, ho]
    rw [e]
    by_cases hal : allocOp o.op = true
    · rw [if_pos hal]
      exact wpOp_mono (fun a' w' h => ⟨⟨fun h0 => absurd h0 (by simp), fun _ => h.1⟩, h.2⟩) (wpOp_alloc ho hal h)
    · rw [if_neg hal]
      by_cases hst : stillOp o.op = true
      · rw [if_pos hst]
        exact wpOp_mono (fun a' w' h => ⟨⟨fun _ => h.1, fun h1 => absurd h1 (by simp)⟩, h.2⟩) (wpOp_still ho hst h)
      · rw [if_neg hst]
        exact wpOp_mono (fun a' w' h => ⟨⟨fun h0 => absurd h0 (by simp), fun h1 => absurd h1 (by simp)⟩, h⟩) h

theorem wpAnyP_alt {us : List Nat} (hQ : ∀ c a (d : Option Tmp) v w, Q (.panic c) (a.put d v) w → Q (.panic c) a w) (hs : Region.noSelect ops = true) : ∀ (n : Nat) (tss : List (List Nat)) (listed : Array Bool) (a : Act) (w : World), Closed md ops listed → tailsB md ops us n tss listed = true →
    wpAlt P ops Q n tss a w → wpAnyP P md ops Q (classA ops us) n listed a w
  | 0, _, _, _, _, _, hB, h => ⟨by simpa [tailsB] using hB, h⟩
  | n + 1, tss, listed, a, w, hcl, hB, h => by
    unfold tailsB at hB
    rw [Bool.or_eq_true] at hB
    unfold wpAlt at h
    rcases hB with hB | hB
    · split at hB
      · rename_i t r hheads
        simp only [Bool.and_eq_true] at hB
        obtain ⟨⟨⟨⟨⟨_, hu⟩, hr⟩, hfr⟩, hc⟩, hB⟩ := hB
        have hr' : t ∈ Region.ready md ops listed := by simpa using hr
        have h1 := h t (by rw [hheads]; simp)
        cases ho : ops[t]? with
        | none => rw [ho] at hc; cases hc
        | some o =>
          rw [ho] at hc
          obtain ⟨v, hy, hK⟩ := yields_of_calm ho hc h1
          exact wpAnyP_first (S := fun _ => True) ho (Region.noSelect_spec hs) (fun c a w => hQ c a _ _ w) (fun _ _ _ _ _ _ _ _ _ => trivial) _ listed a w hcl (Region.free_spec ho hfr) hr' hy trivial
            (wpAnyP_alt hQ hs n _ _ _ w (hcl.set_ hr') hB hK)
      · cases hB
    · simp only [Bool.and_eq_true, List.all_eq_true] at hB
      refine ⟨fun h0 => (by rw [h0] at hB; simp at hB), fun i hi => ?_⟩
      obtain ⟨⟨hh, hu⟩, hB2⟩ := hB.2 i hi
      have h1 := h i (by simpa using hh)
      exact wpOp_mono (fun a' w' h' => ⟨h'.1, wpAnyP_alt hQ hs n _ _ a' w' (hcl.set_ hi) hB2 h'.2⟩) (cls_of_op hu h1)

def earlyAB (P : Program) (md : Region.Mode) (ops : Array Oper) (us : List Nat) (tss : List (List Nat)) : List Nat → Array Bool → Bool
  | [], listed => tailsB md ops us us.length tss listed
  | i :: es, listed => (Region.ready md ops listed).contains i && Region.free md ops listed i && !us.contains i &&
      (match ops[i]? with
        | some o => valueOp o.op && (worldless P o.op || (us.all fun j => waitsT md ops ops.size j i || ((match ops[j]? with | some oj => stillOp oj.op && !allocOp oj.op | none => false) || (loadOp o.op && (match ops[j]? with | some oj => allocOp oj.op | none => false)))))
        | none => false) &&
      earlyAB P md ops us tss es (listed.setIfInBounds i true)

theorem class_still {us : List Nat} {j : Nat} (hfj : us.contains j = true) (h : (match ops[j]? with | some oj => stillOp oj.op && !allocOp oj.op | none => false) = true) : classA ops us j = 0 := by
  unfold classA
  rw [if_pos hfj]
  cases hoj : ops[j]? with
  | none => rfl
  | some oj =>
    rw [hoj] at h
    simp only [Bool.and_eq_true, Bool.not_eq_true'] at h
    simp [h.1, h.2]

theorem wpAnyP_earlyA {w : World} (hQ : ∀ c a (d : Option Tmp) v w, Q (.panic c) (a.put d v) w → Q (.panic c) a w) (hs : Region.noSelect ops = true) (us : List Nat) (tss : List (List Nat)) : ∀ (es : List Nat) (listed : Array Bool) (a : Act), Closed md ops listed →
    earlyAB P md ops us tss es listed = true → wpStill P ops w (fun a' => wpAlt P ops Q us.length tss a' w) (es.filterMap (ops[·]?)) a → wpAnyP P md ops Q (classA ops us) (es.length + us.length) listed a w
  | [], listed, a, hcl, hB, h => by
    simp only [List.length_nil, Nat.zero_add]
    exact wpAnyP_alt hQ hs us.length tss listed a w hcl hB h
  | i :: es, listed, a, hcl, hB, h => by
    simp only [earlyAB, Bool.and_eq_true] at hB
    obtain ⟨⟨⟨⟨hr, hf⟩, hnt⟩, hk⟩, hrest⟩ := hB
    have hr' : i ∈ Region.ready md ops listed := by simpa using hr
    cases ho : ops[i]? with
    | none => rw [ho] at hk; cases hk
    | some o =>
      rw [ho] at hk
      simp only [Bool.and_eq_true, Bool.or_eq_true] at hk
      rw [List.filterMap_cons_some ho] at h
      obtain ⟨v, hy, hy0, hyl, hK⟩ := yieldsIf_of_still (K := wpStill P ops w (fun a' => wpAlt P ops Q us.length tss a' w) (es.filterMap (ops[·]?))) hk.1 h
      have IH := wpAnyP_earlyA hQ hs us tss es (listed.setIfInBounds i true) _ (hcl.set_ hr') hrest hK
      rw [List.length_cons, show es.length + 1 + us.length = (es.length + us.length) + 1 by omega]
      rcases hk.2 with hl | hl
      · exact wpAnyP_first (S := fun _ => True) ho (Region.noSelect_spec hs) (fun c a w => hQ c a _ _ w) (fun _ _ _ _ _ _ _ _ _ => trivial) _ listed a w hcl (Region.free_spec ho hf) hr' (hy0 hl) trivial IH
      · by_cases hld : loadOp o.op = true
        · refine wpAnyP_first (S := fun u => Ext w u) ho (Region.noSelect_spec hs) (fun c a w => hQ c a _ _ w) (fun listed' j hcl' hj hun u u' hu hc => ?_) _ listed a w hcl (Region.free_spec ho hf) hr' (hyl hld) (Ext.refl _) IH
          cases hfj : us.contains j with
          | false =>
            have : classA ops us j = 0 := by unfold classA; rw [if_neg (by rw [hfj]; simp)]
            rw [hc.1 this]
            exact hu
          | true =>
            have hwj := List.all_eq_true.1 hl j (by simpa using hfj)
            simp only [Bool.or_eq_true, Bool.and_eq_true] at hwj
            rcases hwj with hwj | hwj | ⟨_, hwj⟩
            · rw [hcl'.ready hwj hj] at hun
              cases hun
            · rw [hc.1 (class_still hfj hwj)]
              exact hu
            · cases hoj : ops[j]? with
              | none => rw [hoj] at hwj; cases hwj
              | some oj =>
                rw [hoj] at hwj
                have : classA ops us j = 1 := by unfold classA; rw [if_pos hfj, hoj]; simp [hwj]
                exact hu.trans (hc.2 this)
        · refine wpAnyP_first (S := fun u => u = w) ho (Region.noSelect_spec hs) (fun c a w => hQ c a _ _ w) (fun listed' j hcl' hj hun u u' hu hc => ?_) _ listed a w hcl (Region.free_spec ho hf) hr' hy rfl IH
          cases hfj : us.contains j with
          | false =>
            have : classA ops us j = 0 := by unfold classA; rw [if_neg (by rw [hfj]; simp)]
            rw [hc.1 this]
            exact hu
          | true =>
            have hwj := List.all_eq_true.1 hl j (by simpa using hfj)
            simp only [Bool.or_eq_true, Bool.and_eq_true] at hwj
            rcases hwj with hwj | hwj | ⟨h2, _⟩
            · rw [hcl'.ready hwj hj] at hun
              cases hun
            · rw [hc.1 (class_still hfj hwj)]
              exact hu
            · exact absurd h2 hld

def planAB (P : Program) (ops : Array Oper) (es us : List Nat) (tss : List (List Nat)) : Bool :=
  Region.noSelect ops && (es.length + us.length == ops.size) && earlyAB P .any ops us tss es (Array.replicate ops.size false)

theorem wp_region_alts {id : Nat} {a : Act} {w : World} {l : List Oper} (es us : List Nat) (tss : List (List Nat)) (hm : P.follows .mixedOrders = true) (hB : planAB P l.toArray es us tss = true)
    (hQ : ∀ c a (d : Option Tmp) v w, Q (.panic c) (a.put d v) w → Q (.panic c) a w)
    (h : wpStill P l.toArray w.drew (fun a' => wpAlt P l.toArray Q us.length tss a' w.drew) (es.filterMap (l[·]?)) a) : (Code.region id l.toArray true).wp P Q a w := by
  simp only [planAB, Bool.and_eq_true, beq_iff_eq] at hB
  obtain ⟨⟨hs, hn⟩, hE⟩ := hB
  refine wp_region_any hm (wpAny_of_P (cls := classA l.toArray us) _ _ _ _ ?_)
  rw [← hn]
  refine wpAnyP_earlyA (w := w.drew) hQ hs us tss es _ a (Closed.start _ _ _) (by rw [hn]; exact hE) ?_
  have e1 : (fun (i : Nat) => l.toArray[i]?) = fun (i : Nat) => l[i]? := by funext i; simp
  rw [e1]
  exact h

theorem wpOp_list {i : Nat} {o : Oper} {K : Act → World → Prop} {a : Act} {w : World} (ho : ops[i]? = some o) (h : wpList P ops (Exit.then K Q) [o] a w) : wpOp P ops Q i K a w := by
  unfold wpOp
  rw [ho]
  unfold wpList at h
  dsimp only
  split at h
  · rename_i hw
    rw [if_pos hw]
    refine h.imp (fun h => ?_) id
    unfold Oper.wp at h ⊢
    generalize (execOp a.eval o).run P w = r at h ⊢
    cases r with
    | halt x w' => cases x <;> exact h
    | ok n w' => cases n <;> exact h
  · rename_i hw
    rw [if_neg hw]
    exact h

theorem wpAlt_one : ∀ (ts : List Nat) (n : Nat) (a : Act) (w : World), ts.length = n → wpList P ops Q (ts.filterMap (ops[·]?)) a w → wpAlt P ops Q n [ts] a w
  | [], n, a, w, hn, h => by
    subst hn
    exact h
  | t :: ts, n, a, w, hn, h => by
    subst hn
    intro i hi
    have : i = t := by simpa using hi
    subst this
    have e : tailsOf i [i :: ts] = [ts] := by simp [tailsOf]
    rw [e]
    cases ho : ops[i]? with
    | none =>
      unfold wpOp
      rw [ho]
      rw [List.filterMap_cons_none ho] at h
      exact wpAlt_one ts _ a w rfl h
    | some o =>
      rw [List.filterMap_cons_some ho] at h
      unfold wpOp
      rw [ho]
      unfold wpList at h
      dsimp only
      split at h
      · rename_i hw
        rw [if_pos hw]
        exact h.imp (Oper.wp_mono fun a w => wpAlt_one ts _ a w rfl) id
      · rename_i hw
        rw [if_neg hw]
        exact wpAlt_one ts _ _ _ rfl h
end
end Go.Inq

namespace Go.Proofs.YtjomijnbnbideaaGreatDoor
open Go.RowKit Go.Inq
set_option maxHeartbeats 8000000
attribute [local go_sem ↓] Go.wp_at_zero Go.wp_at_succ

set_option maxRecDepth 100000 in
theorem seen22_any (A : Option Addr) (c : Nat) (H : List Txn) (level : Int) (vl : Value) (f : Fct) (vc : Value) (w : World) (h : TxnS w (Old w) (.slice A H.length c) H) (hn : SmallH H) :
    Calls Tryz.prog 136 #[.agg #[.slice A H.length c, .int .i64 level, vl, .int .i64 f.c.key, .int .i64 f.c.a, .int .i64 f.c.b, .int .i64 f.kind, .int .i64 f.i, .int .i64 f.j, vc]] w fun e w' => e = .returned (.bool (seenF H f)) ∧ Below w.heap.size w w' := by
  obtain ⟨⟨key, a, b⟩, kind, i, j, cyc⟩ := f
  dsimp only
  obtain ⟨W0, hW0⟩ : ∃ W0, w.alloc (.cells #[.slice A H.length c, .int .i64 level, vl, .int .i64 key, .int .i64 a, .int .i64 b, .int .i64 kind, .int .i64 i, .int .i64 j, vc] 138) = W0 := ⟨_, rfl⟩
  have hB := below_allocEq (Below.refl w.heap.size w) hW0 (Nat.le_refl _)
  have k0 := Blk.newEq hW0
  have hT := h.below hB
  have hdi := hide (fun W (hb : Below w.heap.size w W) => direct19_any A c H none 0 [] a i W (h.below hb) hn (ChoS.nil _ _ _ _) (by simp))
  have hre : Hid (seenF H ⟨⟨key, a, b⟩, kind, i, j, cyc⟩ = (decide (j = 0) && decide (i ≠ a) && decide (0 ≤ i) && decide (i < (H.length : Int)) && ((txnAt H i.toNat).reads.any fun x => decide (x.a = key) && decide (x.b = b)) && directB H [] a i)) := hide rfl
  obtain ⟨r, hr⟩ : ∃ r, seenF H ⟨⟨key, a, b⟩, kind, i, j, cyc⟩ = r := ⟨_, rfl⟩
  rw [hr] at hre
  rw [hr]
  generalize directB H [] a i = q at *
  have c0 := Blk.n0 k0
  have c3 := Blk.n3 k0
  have c4 := Blk.n4 k0
  have c5 := Blk.n5 k0
  have c7 := Blk.n7 k0
  have c8 := Blk.n8 k0
  have hct : Hid True := hide trivial
  clear hr
  by_cases h1 : j = 0
  · have g1 : (j != 0) = false := by simp [h1]
    by_cases h2 : i = a
    · have hrq : r = false := by rw [hre.out]; simp [h2]
      have g2 : (i == a) = true := by simp [h2]
      subst hrq
      clear h1 h2 hre h hT
      clear hdi hct
      go_enter Tryz.func136, Tryz.ntmps136
      go_wp2
      go_ret
      exact ⟨rfl, hB⟩
    · have g2 : (i == a) = false := by simpa using h2
      by_cases h3 : i < 0
      · have hrq : r = false := by rw [hre.out, decide_eq_false (show ¬ 0 ≤ i by omega)]; simp
        have g3 : decide (i < 0) = true := by simpa using h3
        subst hrq
        clear h1 h2 h3 hre h hT
        clear hdi hct
        go_enter Tryz.func136, Tryz.ntmps136
        go_wp2
        go_ret
        exact ⟨rfl, hB⟩
      · have g3 : decide (i < 0) = false := by simpa using h3
        by_cases h4 : (H.length : Int) ≤ i
        · have hrq : r = false := by rw [hre.out, decide_eq_false (show ¬ i < (H.length : Int) by omega)]; simp
          have g4 : decide (i ≥ (H.length : Int)) = true := by simpa using h4
          have g5 : decide ((H.length : Int) ≤ i) = true := by simpa using h4
          subst hrq
          clear h1 h2 h3 h4 hre h hT
          clear hdi hct
          go_enter Tryz.func136, Tryz.ntmps136
          go_wp2
          go_ret
          exact ⟨rfl, hB⟩
        · obtain ⟨m, rfl⟩ : ∃ m : Nat, i = (m : Int) := ⟨i.toNat, by omega⟩
          have hm : m < H.length := by omega
          have hm0 : (0 : Int) ≤ (m : Int) := Int.natCast_nonneg _
          have hm1 : (m : Int) < (H.length : Int) := by omega
          have g4 : decide ((m : Int) ≥ (H.length : Int)) = false := by simp; omega
          have g5 : decide ((H.length : Int) ≤ (m : Int)) = false := by simp; omega
          have g6 : decide (H.length ≤ m) = false := by simp; omega
          obtain ⟨bt, ot, Aw, cw, Ar, cr, rfl, _, d0, d1, d2, -, hrs⟩ := TxnS.at_ hT hm
          have hrl : H[m].reads.length ≤ 1000000 := (hn.2 _ (List.getElem_mem hm)).2
          have hct := hide (containsT_any Ar cr H[m].reads key b W0.drew (ItS.keep hrs (Agree.drew _ _) (fun b h => h)) (by omega))
          have hre2 := hide (show r = ((H[m].reads.any fun x => decide (x.a = key) && decide (x.b = b)) && q) by
            rw [hre.out, Int.toNat_natCast, txnAt_of hm, decide_eq_true h1, decide_eq_true h2, decide_eq_true hm0, decide_eq_true hm1]
            simp)
          generalize (H[m].reads.any fun x => decide (x.a = key) && decide (x.b = b)) = q1 at *
          generalize H[m].reads = R at *
          clear h1 h2 h3 h4 hre hT hrs h
          go_enter Tryz.func136, Tryz.ntmps136
          go_upto_region 3 with fail
          refine wp_region_plan [0, 1, 2, 3, 4, 5, 6, 7, 8, 9, 10, 11, 12, 13, 14, 15, 16, 17] [18, 19] (by kernel_rfl) (by kernel_rfl) (fun _ _ d _ _ h => by cases d <;> exact h) ?_
          simp only [List.filterMap_cons, List.filterMap_nil, gZ, gS]
          repeat still_step
          refine wpStill_nil ?_
          go_wp2_with fail
          refine hct.out.mono ?_
          rintro e w1 ⟨rfl, hb1⟩
          have hb2 := (below_drew hB).trans (hb1.mono hB.size)
          have k1 := k0.drew.below hb1 k0.lt
          have e0 := Blk.n0 k1
          have e4 := Blk.n4 k1
          have e7 := Blk.n7 k1
          have hd2 := hide (hdi.out w1 hb2)
          clear hW0 hct hdi c0 c3 c4 c5 c7 c8 d0 d1 d2
          cases q1 with
          | false =>
            have hrq : r = false := by rw [hre2.out]; rfl
            subst hrq
            clear hd2 hre2
            go_wp2
            go_ret
            exact ⟨rfl, hb2⟩
          | true =>
            have hrq : r = q := by rw [hre2.out]; rfl
            subst hrq
            clear hre2
            go_wp2_with fail
            refine hd2.out.mono ?_
            rintro e w2 ⟨rfl, hb3⟩
            go_wp2
            go_ret
            exact ⟨rfl, hb2.trans (hb3.mono hb2.size)⟩
  · have g1 : (j != 0) = true := by simpa using h1
    have hrq : r = false := by rw [hre.out]; simp [h1]
    subst hrq
    clear h1 hre h hT
    clear hdi hct
    go_enter Tryz.func136, Tryz.ntmps136
    go_wp2
    go_ret
    exact ⟨rfl, hB⟩
end Go.Proofs.YtjomijnbnbideaaGreatDoor
