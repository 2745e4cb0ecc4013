/-
  A region that draws its order, by a plan with alternatives: the row may go on in several ways.
-/
import Derived.Test.YtjomijnbnbideaaGreatDoorE02
import Derived.Test.YtjomijnbnbideaaGreatDoorE12
import Derived.Test.YtjomijnbnbideaaGreatDoorE05
import Derived.Test.YtjomijnbnbideaaGreatDoorE07
import Derived.Test.YtjomijnbnbideaaGreatDoorE10
set_option linter.unusedVariables false
set_option linter.unusedSimpArgs false
namespace Go.Inq
open Go
section
variable {P : Program} {ops : Array Oper} {Q : Exit → Act → World → Prop} {md : Region.Mode}

def tailsOf (i : Nat) (tss : List (List Nat)) : List (List Nat) :=
  tss.filterMap fun r => match r with
    | t :: r' => if t = i then some r' else none
    | [] => none

/-- The rows tss, walked as a tree. -/
def wpAlt (P : Program) (ops : Array Oper) (Q : Exit → Act → World → Prop) : Nat → List (List Nat) → Act → World → Prop
  | 0, _, a, w => Q .normal a w
  | n + 1, tss, a, w => ∀ i ∈ tss.filterMap List.head?, wpOp P ops Q i (wpAlt P ops Q n (tailsOf i tss)) a w

def tailsB (md : Region.Mode) (ops : Array Oper) (us : List Nat) : Nat → List (List Nat) → Array Bool → Bool
  | 0, _, listed => (Region.ready md ops listed).isEmpty
  | n + 1, tss, listed =>
    (match tss.filterMap List.head? with
      | t :: r => r.all (· == t) && us.contains t && (Region.ready md ops listed).contains t && Region.free md ops listed t && (match ops[t]? with | some o => calmOp o.op | none => false) &&
          tailsB md ops us n (tailsOf t tss) (listed.setIfInBounds t true)
      | [] => false) ||
    (!(Region.ready md ops listed).isEmpty && (Region.ready md ops listed).all fun i => (tss.filterMap List.head?).contains i && us.contains i && tailsB md ops us n (tailsOf i tss) (listed.setIfInBounds i true))

/-- Operations that look, or do nothing to the world. -/
def stillOp : Op → Bool
  | .move _ | .assign _ | .pick .. | .build .. | .indexAddr .. | .extract .. | .makeFunc .. | .nilCheck _ | .load .. => true
  | _ => false

theorem stillOp_spec {ρ : Operand → Value} {o : Oper} (h : stillOp o.op = true) {w w' : World} {n : Next} (hr : (execOp ρ o).run P w = .ok n w') : w' = w ∧ ∃ v, n = .value v := by
  by_cases hl : loadOp o.op = true
  · cases ho : o.op <;> rw [ho] at hl <;> simp [loadOp] at hl
    case load t x =>
      have e : execOp ρ o = (do Pure.pure (.value (← Instr.loadAt t (ρ x)))) := by unfold execOp; rw [ho]
      have hv := valueOp_spec (P := P) (ρ := ρ) (o := o) (by rw [ho]; rfl) hr
      rw [e] at hr
      exact ⟨(Stb.bind (Stb.loadAt _ _) (fun _ => (Clear.pure _).stb) P _ _ _ hr).1, hv⟩
  · have hw : worldless P o.op = true := by cases ho : o.op <;> rw [ho] at h hl <;> simp [stillOp, loadOp] at h hl <;> rfl
    have hv := valueOp_spec (P := P) (ρ := ρ) (o := o) (by cases ho : o.op <;> rw [ho] at h hl <;> simp [stillOp, loadOp] at h hl <;> rfl) hr
    refine ⟨?_, hv⟩
    have := (worldless_spec hw hr w).symm.trans hr
    injection this with _ e
    exact e.symm

theorem wpOp_still {t : Nat} {o : Oper} {a : Act} {w : World} {K : Act → World → Prop} (ho : ops[t]? = some o) (hc : stillOp o.op = true) (h : wpOp P ops Q t K a w) : wpOp P ops Q t (fun a' w' => w' = w ∧ K a' w') a w := by
  unfold wpOp at *
  rw [ho] at h ⊢
  dsimp only at *
  by_cases hw : Region.wanted o (yielded ops a.tmps) = true
  · rw [if_pos hw] at h ⊢
    refine h.imp (fun h => ?_) id
    unfold Oper.wp at *
    generalize hr : (execOp a.eval o).run P w = r at *
    cases r with
    | halt x w' => cases x <;> simp only [Oper.upon] at h ⊢ <;> exact h
    | ok n w' =>
      obtain ⟨he, v, rfl⟩ := stillOp_spec hc hr
      exact ⟨he, h⟩
  · rw [if_neg hw] at h ⊢
    exact ⟨rfl, h⟩

def classA (ops : Array Oper) (us : List Nat) (j : Nat) : Nat :=
  if us.contains j then (match ops[j]? with | some o => if allocOp o.op then 1 else if stillOp o.op then 0 else 2 | none => 0) else 0

theorem cls_of_op {us : List Nat} {t : Nat} (hf : us.contains t = true) {K : Act → World → Prop} {a : Act} {w : World} (h : wpOp P ops Q t K a w) :
    wpOp P ops Q t (fun a' w' => ((classA ops us t = 0 → w' = w) ∧ (classA ops us t = 1 → Ext w w')) ∧ K a' w') a w := by
  cases ho : ops[t]? with
  | none => unfold wpOp at *; rw [ho] at h ⊢; exact ⟨⟨fun _ => rfl, fun _ => Ext.refl _⟩, h⟩
  | some o =>
    have e : classA ops us t = if allocOp o.op then 1 else if stillOp o.op then 0 else 2 := by unfold classA; rw [if_pos hf, ho]
    rw [e]
    by_cases hal : allocOp o.op = true
    · rw [if_pos hal]
      exact wpOp_mono (fun a' w' h => ⟨⟨fun h0 => absurd h0 (by simp), fun _ => h.1⟩, h.2⟩) (wpOp_alloc ho hal h)
    · rw [if_neg hal]
      by_cases hst : stillOp o.op = true
      · rw [if_pos hst]
        exact wpOp_mono (fun a' w' h => ⟨⟨fun _ => h.1, fun h1 => absurd h1 (by simp)⟩, h.2⟩) (wpOp_still ho hst h)
      · rw [if_neg hst]
        exact wpOp_mono (fun a' w' h => ⟨⟨fun h0 => absurd h0 (by simp), fun h1 => absurd h1 (by simp)⟩, h⟩) h

theorem wpAnyP_alt {us : List Nat} (hQ : ∀ c a (d : Option Tmp) v w, Q (.panic c) (a.put d v) w → Q (.panic c) a w) (hs : Region.noSelect ops = true) : ∀ (n : Nat) (tss : List (List Nat)) (listed : Array Bool) (a : Act) (w : World), Closed md ops listed → tailsB md ops us n tss listed = true →
    wpAlt P ops Q n tss a w → wpAnyP P md ops Q (classA ops us) n listed a w
  | 0, _, _, _, _, _, hB, h => ⟨by simpa [tailsB] using hB, h⟩
  | n + 1, tss, listed, a, w, hcl, hB, h => by
    unfold tailsB at hB
    rw [Bool.or_eq_true] at hB
    unfold wpAlt at h
    rcases hB with hB | hB
    · split at hB
      · rename_i t r hheads
        simp only [Bool.and_eq_true] at hB
        obtain ⟨⟨⟨⟨⟨_, hu⟩, hr⟩, hfr⟩, hc⟩, hB⟩ := hB
        have hr' : t ∈ Region.ready md ops listed := by simpa using hr
        have h1 := h t (by rw [hheads]; simp)
        cases ho : ops[t]? with
        | none => rw [ho] at hc; cases hc
        | some o =>
          rw [ho] at hc
          obtain ⟨v, hy, hK⟩ := yields_of_calm ho hc h1
          exact wpAnyP_first (S := fun _ => True) ho (Region.noSelect_spec hs) (fun c a w => hQ c a _ _ w) (fun _ _ _ _ _ _ _ _ _ => trivial) _ listed a w hcl (Region.free_spec ho hfr) hr' hy trivial
            (wpAnyP_alt hQ hs n _ _ _ w (hcl.set_ hr') hB hK)
      · cases hB
    · simp only [Bool.and_eq_true, List.all_eq_true] at hB
      refine ⟨fun h0 => (by rw [h0] at hB; simp at hB), fun i hi => ?_⟩
      obtain ⟨⟨hh, hu⟩, hB2⟩ := hB.2 i hi
      have h1 := h i (by simpa using hh)
      exact wpOp_mono (fun a' w' h' => ⟨h'.1, wpAnyP_alt hQ hs n _ _ a' w' (hcl.set_ hi) hB2 h'.2⟩) (cls_of_op hu h1)

def earlyAB (P : Program) (md : Region.Mode) (ops : Array Oper) (us : List Nat) (tss : List (List Nat)) : List Nat → Array Bool → Bool
  | [], listed => tailsB md ops us us.length tss listed
  | i :: es, listed => (Region.ready md ops listed).contains i && Region.free md ops listed i && !us.contains i &&
      (match ops[i]? with
        | some o => valueOp o.op && (worldless P o.op || (us.all fun j => waitsT md ops ops.size j i || ((match ops[j]? with | some oj => stillOp oj.op && !allocOp oj.op | none => false) || (loadOp o.op && (match ops[j]? with | some oj => allocOp oj.op | none => false)))))
        | none => false) &&
      earlyAB P md ops us tss es (listed.setIfInBounds i true)

theorem class_still {us : List Nat} {j : Nat} (hfj : us.contains j = true) (h : (match ops[j]? with | some oj => stillOp oj.op && !allocOp oj.op | none => false) = true) : classA ops us j = 0 := by
  unfold classA
  rw [if_pos hfj]
  cases hoj : ops[j]? with
  | none => rfl
  | some oj =>
    rw [hoj] at h
    simp only [Bool.and_eq_true, Bool.not_eq_true'] at h
    simp [h.1, h.2]

theorem wpAnyP_earlyA {w : World} (hQ : ∀ c a (d : Option Tmp) v w, Q (.panic c) (a.put d v) w → Q (.panic c) a w) (hs : Region.noSelect ops = true) (us : List Nat) (tss : List (List Nat)) : ∀ (es : List Nat) (listed : Array Bool) (a : Act), Closed md ops listed →
    earlyAB P md ops us tss es listed = true → wpStill P ops w (fun a' => wpAlt P ops Q us.length tss a' w) (es.filterMap (ops[·]?)) a → wpAnyP P md ops Q (classA ops us) (es.length + us.length) listed a w
  | [], listed, a, hcl, hB, h => by
    simp only [List.length_nil, Nat.zero_add]
    exact wpAnyP_alt hQ hs us.length tss listed a w hcl hB h
  | i :: es, listed, a, hcl, hB, h => by
    simp only [earlyAB, Bool.and_eq_true] at hB
    obtain ⟨⟨⟨⟨hr, hf⟩, hnt⟩, hk⟩, hrest⟩ := hB
    have hr' : i ∈ Region.ready md ops listed := by simpa using hr
    cases ho : ops[i]? with
    | none => rw [ho] at hk; cases hk
    | some o =>
      rw [ho] at hk
      simp only [Bool.and_eq_true, Bool.or_eq_true] at hk
      rw [List.filterMap_cons_some ho] at h
      obtain ⟨v, hy, hy0, hyl, hK⟩ := yieldsIf_of_still (K := wpStill P ops w (fun a' => wpAlt P ops Q us.length tss a' w) (es.filterMap (ops[·]?))) hk.1 h
      have IH := wpAnyP_earlyA hQ hs us tss es (listed.setIfInBounds i true) _ (hcl.set_ hr') hrest hK
      rw [List.length_cons, show es.length + 1 + us.length = (es.length + us.length) + 1 by omega]
      rcases hk.2 with hl | hl
      · exact wpAnyP_first (S := fun _ => True) ho (Region.noSelect_spec hs) (fun c a w => hQ c a _ _ w) (fun _ _ _ _ _ _ _ _ _ => trivial) _ listed a w hcl (Region.free_spec ho hf) hr' (hy0 hl) trivial IH
      · by_cases hld : loadOp o.op = true
        · refine wpAnyP_first (S := fun u => Ext w u) ho (Region.noSelect_spec hs) (fun c a w => hQ c a _ _ w) (fun listed' j hcl' hj hun u u' hu hc => ?_) _ listed a w hcl (Region.free_spec ho hf) hr' (hyl hld) (Ext.refl _) IH
          cases hfj : us.contains j with
          | false =>
            have : classA ops us j = 0 := by unfold classA; rw [if_neg (by rw [hfj]; simp)]
            rw [hc.1 this]
            exact hu
          | true =>
            have hwj := List.all_eq_true.1 hl j (by simpa using hfj)
            simp only [Bool.or_eq_true, Bool.and_eq_true] at hwj
            rcases hwj with hwj | hwj | ⟨_, hwj⟩
            · rw [hcl'.ready hwj hj] at hun
              cases hun
            · rw [hc.1 (class_still hfj hwj)]
              exact hu
            · cases hoj : ops[j]? with
              | none => rw [hoj] at hwj; cases hwj
              | some oj =>
                rw [hoj] at hwj
                have : classA ops us j = 1 := by unfold classA; rw [if_pos hfj, hoj]; simp [hwj]
                exact hu.trans (hc.2 this)
        · refine wpAnyP_first (S := fun u => u = w) ho (Region.noSelect_spec hs) (fun c a w => hQ c a _ _ w) (fun listed' j hcl' hj hun u u' hu hc => ?_) _ listed a w hcl (Region.free_spec ho hf) hr' hy rfl IH
          cases hfj : us.contains j with
          | false =>
            have : classA ops us j = 0 := by unfold classA; rw [if_neg (by rw [hfj]; simp)]
            rw [hc.1 this]
            exact hu
          | true =>
            have hwj := List.all_eq_true.1 hl j (by simpa using hfj)
            simp only [Bool.or_eq_true, Bool.and_eq_true] at hwj
            rcases hwj with hwj | hwj | ⟨h2, _⟩
            · rw [hcl'.ready hwj hj] at hun
              cases hun
            · rw [hc.1 (class_still hfj hwj)]
              exact hu
            · exact absurd h2 hld

def planAB (P : Program) (ops : Array Oper) (es us : List Nat) (tss : List (List Nat)) : Bool :=
  Region.noSelect ops && (es.length + us.length == ops.size) && earlyAB P .any ops us tss es (Array.replicate ops.size false)

theorem wpStill_mono' {w : World} {K K' : Act → Prop} (hk : ∀ a, K a → K' a) (os : List Oper) (a : Act) (h : wpStill P ops w K os a) : wpStill P ops w K' os a := wpStill_mono hk os a h

/-- A REGION THAT DRAWS ITS ORDER, BY A PLAN WITH ALTERNATIVES. -/
theorem wp_region_alts {id : Nat} {a : Act} {w : World} {l : List Oper} (es us : List Nat) (tss : List (List Nat)) (hm : P.follows .mixedOrders = true) (hB : planAB P l.toArray es us tss = true)
    (hQ : ∀ c a (d : Option Tmp) v w, Q (.panic c) (a.put d v) w → Q (.panic c) a w)
    (h : wpStill P l.toArray w.drew (fun a' => wpAlt P l.toArray Q us.length tss a' w.drew) (es.filterMap (l[·]?)) a) : (Code.region id l.toArray true).wp P Q a w := by
  simp only [planAB, Bool.and_eq_true, beq_iff_eq] at hB
  obtain ⟨⟨hs, hn⟩, hE⟩ := hB
  refine wp_region_any hm (wpAny_of_P (cls := classA l.toArray us) _ _ _ _ ?_)
  rw [← hn]
  refine wpAnyP_earlyA (w := w.drew) hQ hs us tss es _ a (Closed.start _ _ _) (by rw [hn]; exact hE) ?_
  have e1 : (fun (i : Nat) => l.toArray[i]?) = fun (i : Nat) => l[i]? := by funext i; simp
  rw [e1]
  exact h

/-- One step of the tree. -/
theorem wpOp_list {i : Nat} {o : Oper} {K : Act → World → Prop} {a : Act} {w : World} (ho : ops[i]? = some o) (h : wpList P ops (Exit.then K Q) [o] a w) : wpOp P ops Q i K a w := by
  unfold wpOp
  rw [ho]
  unfold wpList at h
  dsimp only
  split at h
  · rename_i hw
    rw [if_pos hw]
    refine h.imp (fun h => ?_) id
    unfold Oper.wp at h ⊢
    generalize (execOp a.eval o).run P w = r at h ⊢
    cases r with
    | halt x w' => cases x <;> exact h
    | ok n w' => cases n <;> exact h
  · rename_i hw
    rw [if_neg hw]
    exact h

/-- One row is left. -/
theorem wpAlt_one : ∀ (ts : List Nat) (n : Nat) (a : Act) (w : World), ts.length = n → wpList P ops Q (ts.filterMap (ops[·]?)) a w → wpAlt P ops Q n [ts] a w
  | [], n, a, w, hn, h => by
    subst hn
    exact h
  | t :: ts, n, a, w, hn, h => by
    subst hn
    intro i hi
    have : i = t := by simpa using hi
    subst this
    have e : tailsOf i [i :: ts] = [ts] := by simp [tailsOf]
    rw [e]
    cases ho : ops[i]? with
    | none =>
      unfold wpOp
      rw [ho]
      rw [List.filterMap_cons_none ho] at h
      exact wpAlt_one ts _ a w rfl h
    | some o =>
      rw [List.filterMap_cons_some ho] at h
      unfold wpOp
      rw [ho]
      unfold wpList at h
      dsimp only
      split at h
      · rename_i hw
        rw [if_pos hw]
        exact h.imp (Oper.wp_mono fun a w => wpAlt_one ts _ a w rfl) id
      · rename_i hw
        rw [if_neg hw]
        exact wpAlt_one ts _ _ _ rfl h
end
end Go.Inq

namespace Go.Proofs.YtjomijnbnbideaaGreatDoor
open Go.RowKit Go.Inq
set_option maxHeartbeats 8000000
attribute [local go_sem ↓] Go.wp_at_zero Go.wp_at_succ

set_option maxRecDepth 100000 in
theorem seen22_any (A : Option Addr) (c : Nat) (H : List Txn) (level : Int) (vl : Value) (f : Fct) (vc : Value) (w : World) (h : TxnS w (Old w) (.slice A H.length c) H) (hn : SmallH H) :
    Calls Tryz.prog 136 #[.agg #[.slice A H.length c, .int .i64 level, vl, .int .i64 f.c.key, .int .i64 f.c.a, .int .i64 f.c.b, .int .i64 f.kind, .int .i64 f.i, .int .i64 f.j, vc]] w fun e w' => e = .returned (.bool (seenF H f)) ∧ Below w.heap.size w w' := by
  obtain ⟨⟨key, a, b⟩, kind, i, j, cyc⟩ := f
  dsimp only
  obtain ⟨W0, hW0⟩ : ∃ W0, w.alloc (.cells #[.slice A H.length c, .int .i64 level, vl, .int .i64 key, .int .i64 a, .int .i64 b, .int .i64 kind, .int .i64 i, .int .i64 j, vc] 138) = W0 := ⟨_, rfl⟩
  have hB := below_allocEq (Below.refl w.heap.size w) hW0 (Nat.le_refl _)
  have k0 := Blk.newEq hW0
  have hT := h.below hB
  have hdi := hide (fun W (hb : Below w.heap.size w W) => direct19_any A c H none 0 [] a i W (h.below hb) hn (ChoS.nil _ _ _ _) (by simp))
  have hre : Hid (seenF H ⟨⟨key, a, b⟩, kind, i, j, cyc⟩ = (decide (j = 0) && decide (i ≠ a) && decide (0 ≤ i) && decide (i < (H.length : Int)) && ((txnAt H i.toNat).reads.any fun x => decide (x.a = key) && decide (x.b = b)) && directB H [] a i)) := hide rfl
  obtain ⟨r, hr⟩ : ∃ r, seenF H ⟨⟨key, a, b⟩, kind, i, j, cyc⟩ = r := ⟨_, rfl⟩
  rw [hr] at hre
  rw [hr]
  generalize directB H [] a i = q at *
  have c0 := k0.cell 0
  have c3 := k0.cell 3
  have c4 := k0.cell 4
  have c5 := k0.cell 5
  have c7 := k0.cell 7
  have c8 := k0.cell 8
  simp only [List.getElem?_toArray, List.getElem?_cons_zero, List.getElem?_cons_succ] at c0 c3 c4 c5 c7 c8
  have hct : Hid True := hide trivial
  clear hr
  by_cases h1 : j = 0
  · have g1 : (j != 0) = false := by simp [h1]
    by_cases h2 : i = a
    · have hrq : r = false := by rw [hre.out]; simp [h2]
      have g2 : (i == a) = true := by simp [h2]
      subst hrq
      clear h1 h2 hre h hT
      clear hdi hct
      go_enter Tryz.func136, Tryz.ntmps136
      go_wp2
      go_ret
      exact ⟨rfl, hB⟩
    · have g2 : (i == a) = false := by simpa using h2
      by_cases h3 : i < 0
      · have hrq : r = false := by rw [hre.out, decide_eq_false (show ¬ 0 ≤ i by omega)]; simp
        have g3 : decide (i < 0) = true := by simpa using h3
        subst hrq
        clear h1 h2 h3 hre h hT
        clear hdi hct
        go_enter Tryz.func136, Tryz.ntmps136
        go_wp2
        go_ret
        exact ⟨rfl, hB⟩
      · have g3 : decide (i < 0) = false := by simpa using h3
        by_cases h4 : (H.length : Int) ≤ i
        · have hrq : r = false := by rw [hre.out, decide_eq_false (show ¬ i < (H.length : Int) by omega)]; simp
          have g4 : decide (i ≥ (H.length : Int)) = true := by simpa using h4
          have g5 : decide ((H.length : Int) ≤ i) = true := by simpa using h4
          subst hrq
          clear h1 h2 h3 h4 hre h hT
          clear hdi hct
          go_enter Tryz.func136, Tryz.ntmps136
          go_wp2
          go_ret
          exact ⟨rfl, hB⟩
        · obtain ⟨m, rfl⟩ : ∃ m : Nat, i = (m : Int) := ⟨i.toNat, by omega⟩
          have hm : m < H.length := by omega
          have hm0 : (0 : Int) ≤ (m : Int) := Int.natCast_nonneg _
          have hm1 : (m : Int) < (H.length : Int) := by omega
          have g4 : decide ((m : Int) ≥ (H.length : Int)) = false := by simp; omega
          have g5 : decide ((H.length : Int) ≤ (m : Int)) = false := by simp; omega
          have g6 : decide (H.length ≤ m) = false := by simp; omega
          obtain ⟨bt, ot, Aw, cw, Ar, cr, rfl, _, d0, d1, d2, -, hrs⟩ := TxnS.at_ hT hm
          have hrl : H[m].reads.length ≤ 1000000 := (hn.2 _ (List.getElem_mem hm)).2
          have hct := hide (containsT_any Ar cr H[m].reads key b W0.drew (ItS.keep hrs (Agree.drew _ _) (fun b h => h)) (by omega))
          have hre2 := hide (show r = ((H[m].reads.any fun x => decide (x.a = key) && decide (x.b = b)) && q) by
            rw [hre.out, Int.toNat_natCast, txnAt_of hm, decide_eq_true h1, decide_eq_true h2, decide_eq_true hm0, decide_eq_true hm1]
            simp)
          generalize (H[m].reads.any fun x => decide (x.a = key) && decide (x.b = b)) = q1 at *
          generalize H[m].reads = R at *
          clear h1 h2 h3 h4 hre hT hrs h
          go_enter Tryz.func136, Tryz.ntmps136
          go_upto_region 3 with fail
          refine wp_region_plan [0, 1, 2, 3, 4, 5, 6, 7, 8, 9, 10, 11, 12, 13, 14, 15, 16, 17] [18, 19] (by kernel_rfl) (by kernel_rfl) (fun _ _ d _ _ h => by cases d <;> exact h) ?_
          simp only [List.filterMap_cons, List.filterMap_nil, List.getElem?_cons_zero, List.getElem?_cons_succ]
          repeat still_step
          refine wpStill_nil ?_
          go_wp2_with fail
          refine hct.out.mono ?_
          rintro e w1 ⟨rfl, hb1⟩
          have hb2 := (below_drew hB).trans (hb1.mono hB.size)
          have k1 := k0.drew.below hb1 k0.lt
          have e0 := k1.cell 0
          have e4 := k1.cell 4
          have e7 := k1.cell 7
          simp only [List.getElem?_toArray, List.getElem?_cons_zero, List.getElem?_cons_succ] at e0 e4 e7
          have hd2 := hide (hdi.out w1 hb2)
          clear hW0 hct hdi c0 c3 c4 c5 c7 c8 d0 d1 d2
          cases q1 with
          | false =>
            have hrq : r = false := by rw [hre2.out]; rfl
            subst hrq
            clear hd2 hre2
            go_wp2
            go_ret
            exact ⟨rfl, hb2⟩
          | true =>
            have hrq : r = q := by rw [hre2.out]; rfl
            subst hrq
            clear hre2
            go_wp2_with fail
            refine hd2.out.mono ?_
            rintro e w2 ⟨rfl, hb3⟩
            go_wp2
            go_ret
            exact ⟨rfl, hb2.trans (hb3.mono hb2.size)⟩
  · have g1 : (j != 0) = true := by simpa using h1
    have hrq : r = false := by rw [hre.out]; simp [h1]
    subst hrq
    clear h1 hre h hT
    clear hdi hct
    go_enter Tryz.func136, Tryz.ntmps136
    go_wp2
    go_ret
    exact ⟨rfl, hB⟩
end Go.Proofs.YtjomijnbnbideaaGreatDoor

namespace Go.Inq

/-- Ways over nodes below k. -/
def cloTo (E : Edges) : Nat → Edges
  | 0 => E
  | k + 1 => fun x y => cloTo E k x y || (cloTo E k x k && cloTo E k k y)
/-- A way from x to y over l. -/
def wayB (E : Edges) (x : Nat) : List Nat → Nat → Bool
  | [], y => E x y
  | a :: l, y => E x a && wayB E a l y
theorem wayB_append {E : Edges} : ∀ {x : Nat} {a : List Nat} {k : Nat} {b : List Nat} {y : Nat}, wayB E x (a ++ k :: b) y = (wayB E x a k && wayB E k b y)
  | x, [], k, b, y => rfl
  | x, c :: a, k, b, y => by
    show (E x c && wayB E c (a ++ k :: b) y) = (E x c && wayB E c a k && wayB E k b y)
    rw [wayB_append, Bool.and_assoc]
theorem split_first {k : Nat} : ∀ {l : List Nat}, k ∈ l → ∃ a b, l = a ++ k :: b ∧ k ∉ a
  | [], h => by simp at h
  | c :: l, h => by
    by_cases e : c = k
    · exact ⟨[], l, by rw [e]; rfl, by simp⟩
    · have h2 : k ∈ l := by
        rw [List.mem_cons] at h
        exact h.resolve_left fun g => e g.symm
      obtain ⟨a, b, h3, h4⟩ := split_first h2
      exact ⟨c :: a, b, by rw [h3]; rfl, by simp; exact ⟨fun g => e g.symm, h4⟩⟩
theorem cloTo_way {E : Edges} : ∀ (k : Nat) (x y : Nat), cloTo E k x y = true → ∃ l : List Nat, (∀ a ∈ l, a < k) ∧ wayB E x l y = true
  | 0, x, y, h => ⟨[], by simp, h⟩
  | k + 1, x, y, h => by
    unfold cloTo at h
    rw [Bool.or_eq_true, Bool.and_eq_true] at h
    rcases h with h | ⟨h1, h2⟩
    · obtain ⟨l, hl, hw⟩ := cloTo_way k x y h
      exact ⟨l, fun a ha => by have := hl a ha; omega, hw⟩
    · obtain ⟨l1, hl1, hw1⟩ := cloTo_way k x k h1
      obtain ⟨l2, hl2, hw2⟩ := cloTo_way k k y h2
      refine ⟨l1 ++ k :: l2, fun a ha => ?_, by rw [wayB_append, hw1, hw2]; rfl⟩
      simp only [List.mem_append, List.mem_cons] at ha
      rcases ha with ha | rfl | ha
      · have := hl1 a ha; omega
      · omega
      · have := hl2 a ha; omega
theorem way_cloTo {E : Edges} : ∀ (k : Nat) (m : Nat) (l : List Nat) (x y : Nat), l.length ≤ m → (∀ a ∈ l, a < k) → wayB E x l y = true → cloTo E k x y = true := by
  intro k
  induction k with
  | zero =>
    intro m l x y _ hl hw
    cases l with
    | nil => exact hw
    | cons a l => exact absurd (hl a (by simp)) (by omega)
  | succ k ihk =>
    intro m
    induction m with
    | zero =>
      intro l x y hm hl hw
      obtain rfl : l = [] := List.eq_nil_of_length_eq_zero (by omega)
      unfold cloTo
      rw [ihk 0 [] x y (by simp) (by simp) hw]
      rfl
    | succ m ihm =>
      intro l x y hm hl hw
      by_cases hk : k ∈ l
      · obtain ⟨a, b, rfl, hka⟩ := split_first hk
        rw [wayB_append, Bool.and_eq_true] at hw
        have h1 := ihk a.length a x k (Nat.le_refl _) (fun c hc => by
          have := hl c (by simp [hc])
          have : c ≠ k := fun e => hka (e ▸ hc)
          omega) hw.1
        have h2 := ihm b k y (by simp at hm; omega) (fun c hc => hl c (by simp [hc])) hw.2
        unfold cloTo at h2 ⊢
        rw [Bool.or_eq_true, Bool.and_eq_true] at h2
        have h3 : cloTo E k k y = true := by rcases h2 with h | h; exact h; exact h.2
        rw [h1, h3]
        simp
      · unfold cloTo
        rw [ihk l.length l x y (Nat.le_refl _) (fun c hc => by
          have := hl c hc
          have : c ≠ k := fun e => hk (e ▸ hc)
          omega) hw]
        rfl
/-- All ways over n nodes. -/
def cloE (n : Nat) (E : Edges) : Edges := cloTo E n
theorem cloE_edge {n : Nat} {E : Edges} {x y : Nat} (h : E x y = true) : cloE n E x y = true := way_cloTo n 0 [] x y (by simp) (by simp) h
theorem cloE_trans {n : Nat} {E : Edges} {x y z : Nat} (hy : y < n) (h1 : cloE n E x y = true) (h2 : cloE n E y z = true) : cloE n E x z = true := by
  obtain ⟨a, ha, wa⟩ := cloTo_way n x y h1
  obtain ⟨b, hb, wb⟩ := cloTo_way n y z h2
  refine way_cloTo n _ (a ++ y :: b) x z (Nat.le_refl _) (fun c hc => ?_) (by rw [wayB_append, wa, wb]; rfl)
  simp only [List.mem_append, List.mem_cons] at hc
  rcases hc with hc | rfl | hc
  · exact ha c hc
  · exact hy
  · exact hb c hc
/-- What rises along each edge rises along each way. -/
theorem cloE_rank {n : Nat} {E : Edges} (f : Nat → Nat) (h : ∀ x y, x < n → y < n → E x y = true → f x < f y) : ∀ (l : List Nat) (x y : Nat), x < n → y < n → (∀ a ∈ l, a < n) → wayB E x l y = true → f x < f y
  | [], x, y, hx, hy, _, hw => h x y hx hy hw
  | a :: l, x, y, hx, hy, hl, hw => by
    have hw' : (E x a && wayB E a l y) = true := hw
    rw [Bool.and_eq_true] at hw'
    have ha := hl a (by simp)
    have h1 := h x a hx ha hw'.1
    have h2 := cloE_rank f h l a y ha hy (fun b hb => hl b (by simp [hb])) hw'.2
    omega
/-- Does some way lead back? -/
def cycB (n : Nat) (E : Edges) : Bool := (List.range n).any fun x => cloE n E x x
theorem cyc_rank {n : Nat} {E : Edges} (f : Nat → Nat) (h : ∀ x y, x < n → y < n → E x y = true → f x < f y) : cycB n E = false := by
  unfold cycB
  rw [List.any_eq_false]
  intro x hx hc
  obtain ⟨l, hl, hw⟩ := cloTo_way n x x hc
  have := cloE_rank f h l x x (List.mem_range.1 hx) (List.mem_range.1 hx) hl hw
  omega
end Go.Inq

namespace Go.Inq

theorem sub_len : ∀ (A B : List Nat), A.Nodup → (∀ x ∈ A, x ∈ B) → A.length ≤ B.length
  | [], _, _, _ => Nat.zero_le _
  | a :: A, B, hn, h => by
    rw [List.nodup_cons] at hn
    have h1 := sub_len A (B.erase a) hn.2 fun x hx => (List.mem_erase_of_ne (fun e : x = a => hn.1 (by rw [← e]; exact hx))).2 (h x (by simp [hx]))
    rw [List.length_erase_of_mem (h a (by simp))] at h1
    have := List.length_pos_of_mem (h a (by simp))
    simp
    omega
theorem nextT_spec {n : Nat} {E : Edges} {l : List Nat} {v : Nat} (h : nextT n E l = some v) : v < n ∧ v ∉ l ∧ ∀ x, x < n → E x v = true → x ∈ l := by
  unfold nextT at h
  have h1 := List.find?_some h
  have h2 := List.mem_of_find?_eq_some h
  simp only [Bool.and_eq_true, Bool.not_eq_true', List.all_eq_true, List.mem_range, Bool.or_eq_true, List.contains_iff_mem] at h1
  refine ⟨by simpa using h2, fun hv => ?_, fun x hx he => ?_⟩
  · have := h1.1
    rw [List.contains_iff_mem.2 hv] at this
    cases this
  · rcases h1.2 x hx with g | g
    · rw [he] at g; cases g
    · exact g
theorem nextT_stuck {n : Nat} {E : Edges} {l : List Nat} (h : nextT n E l = none) {v : Nat} (hv : v < n) (hl : v ∉ l) : ∃ x, x < n ∧ x ∉ l ∧ E x v = true := by
  unfold nextT at h
  rw [List.find?_eq_none] at h
  have h1 := h v (List.mem_range.2 hv)
  have hc : l.contains v = false := by
    rw [Bool.eq_false_iff]; intro e; exact hl (List.contains_iff_mem.1 e)
  rw [hc] at h1
  simp only [Bool.not_false, Bool.true_and, List.all_eq_true, List.mem_range, Classical.not_forall] at h1
  obtain ⟨x, hx, h2⟩ := h1
  simp only [Bool.or_eq_true, Bool.not_eq_true', List.contains_iff_mem, not_or] at h2
  exact ⟨x, hx, h2.2, by simpa using h2.1⟩
/-- What an order's beginning is. -/
structure TopoL (n : Nat) (E : Edges) (l : List Nat) : Prop where
  nd : l.Nodup
  lt : ∀ x ∈ l, x < n
  up : ∀ y ∈ l, ∀ x, x < n → E x y = true → x ∈ l ∧ l.idxOf x < l.idxOf y
theorem orderTo_topo {n : Nat} {E : Edges} : ∀ (k : Nat) (l : List Nat), orderTo n E k = some l → TopoL n E l
  | 0, l, h => by
    unfold orderTo at h
    injection h with h
    subst h
    exact ⟨List.nodup_nil, by simp, by simp⟩
  | k + 1, l, h => by
    unfold orderTo at h
    split at h
    · cases h
    · rename_i l0 h0
      split at h
      · cases h
      · rename_i v hv
        injection h with h
        subst h
        have ih := orderTo_topo k l0 h0
        obtain ⟨h1, h2, h3⟩ := nextT_spec hv
        refine ⟨?_, fun x hx => ?_, fun y hy x hx he => ?_⟩
        · rw [List.nodup_append]
          refine ⟨ih.nd, by simp, fun a ha b hb e => ?_⟩
          simp at hb
          subst hb
          exact h2 (e ▸ ha)
        · rw [List.mem_append, List.mem_singleton] at hx
          rcases hx with hx | rfl
          · exact ih.lt x hx
          · exact h1
        · rw [List.mem_append, List.mem_singleton] at hy
          rcases hy with hy | rfl
          · obtain ⟨g1, g2⟩ := ih.up y hy x hx he
            exact ⟨List.mem_append.2 (.inl g1), by rw [List.idxOf_append, List.idxOf_append, if_pos g1, if_pos hy]; exact g2⟩
          · have g1 := h3 x hx he
            refine ⟨List.mem_append.2 (.inl g1), ?_⟩
            rw [List.idxOf_append, List.idxOf_append, if_pos g1, if_neg h2]
            have := List.idxOf_lt_length_of_mem g1
            omega
theorem orderT_some_cyc {n : Nat} {E : Edges} {o : List Nat} (h : orderT n E = some o) : cycB n E = false := by
  have ht := orderTo_topo n o h
  have hl := orderTo_len h
  have hall : ∀ y, y < n → y ∈ o := fun y hy => by
    refine Classical.byContradiction fun hno => ?_
    have := sub_len (y :: o) (List.range n) (List.nodup_cons.2 ⟨hno, ht.nd⟩) (fun x hx => by
      rw [List.mem_cons] at hx
      rw [List.mem_range]
      rcases hx with rfl | hx
      · exact hy
      · exact ht.lt x hx)
    simp at this
    omega
  exact cyc_rank (fun x => o.idxOf x) fun x y hx hy he => (ht.up y (hall y hy) x hx he).2
/-- Where each of some has one of them ahead, some way leads back. -/
theorem back_cyc {n : Nat} {E : Edges} (R : Nat → Prop) (hR : ∀ v, R v → v < n) (hp : ∀ v, R v → ∃ x, R x ∧ E x v = true) : ∀ (m : Nat) (v : Nat), R v → ((List.range n).filter fun x => cloE n E x v).length ≤ m → cycB n E = true
  | m, v, hv, hm => by
    obtain ⟨x, hx, he⟩ := hp v hv
    by_cases hc : cloE n E x x = true
    · unfold cycB
      rw [List.any_eq_true]
      exact ⟨x, List.mem_range.2 (hR x hx), hc⟩
    · have hlt : ((List.range n).filter fun y => cloE n E y x).length + 1 ≤ ((List.range n).filter fun y => cloE n E y v).length := by
        have := sub_len (x :: (List.range n).filter fun y => cloE n E y x) ((List.range n).filter fun y => cloE n E y v) (List.nodup_cons.2 ⟨fun h => hc (List.mem_filter.1 h).2, List.Pairwise.filter _ List.nodup_range⟩) (fun y hy => by
          rw [List.mem_cons] at hy
          rw [List.mem_filter, List.mem_range]
          rcases hy with rfl | hy
          · exact ⟨hR y hx, cloE_edge he⟩
          · rw [List.mem_filter, List.mem_range] at hy
            exact ⟨hy.1, cloE_trans (hR x hx) hy.2 (cloE_edge he)⟩)
        simpa using this
      match m, hm with
      | 0, hm => omega
      | m + 1, hm => exact back_cyc R hR hp m x hx (by omega)
theorem orderTo_stuck {n : Nat} {E : Edges} : ∀ k, orderTo n E k = none → ∃ j l, j < k ∧ orderTo n E j = some l ∧ nextT n E l = none
  | 0, h => by unfold orderTo at h; cases h
  | k + 1, h => by
    unfold orderTo at h
    split at h
    · rename_i h0
      obtain ⟨j, l, h1, h2⟩ := orderTo_stuck k h0
      exact ⟨j, l, by omega, h2⟩
    · rename_i l0 h0
      split at h
      · rename_i hv
        exact ⟨k, l0, by omega, h0, hv⟩
      · cases h
theorem orderT_none_cyc {n : Nat} {E : Edges} (h : orderT n E = none) : cycB n E = true := by
  obtain ⟨j, l, hj, hl, hx⟩ := orderTo_stuck n h
  have ht := orderTo_topo j l hl
  have hlen := orderTo_len hl
  obtain ⟨v, hv, hvl⟩ : ∃ v, v < n ∧ v ∉ l := by
    refine Classical.byContradiction fun hno => ?_
    have := sub_len (List.range n) l List.nodup_range fun x hx => Classical.byContradiction fun hn => hno ⟨x, List.mem_range.1 hx, hn⟩
    simp at this
    omega
  refine back_cyc (fun u => u < n ∧ u ∉ l) (fun u hu => hu.1) (fun u hu => ?_) _ v ⟨hv, hvl⟩ (Nat.le_refl _)
  obtain ⟨x, h1, h2, h3⟩ := nextT_stuck hx hu.1 hu.2
  exact ⟨x, ⟨h1, h2⟩, h3⟩
/-- An order there is just if no way leads back. -/
theorem orderT_cyc (n : Nat) (E : Edges) : (orderT n E).isSome = !cycB n E := by
  cases h : orderT n E with
  | none => rw [orderT_none_cyc h]; rfl
  | some o => rw [orderT_some_cyc h]; rfl
end Go.Inq

namespace Go.Inq

/-- Of each node how many edges lead to v, told in rounds; 0: none do so far. -/
def farK (n : Nat) (E : Edges) (v : Nat) : Nat → Nat → Nat
  | 0, x => if E x v = true then 1 else 0
  | k + 1, x => if farK n E v k x ≠ 0 then farK n E v k x else if ((List.range n).any fun y => E x y && decide (farK n E v k y = k + 1)) = true then k + 2 else 0
section
variable {n : Nat} {E : Edges} {v : Nat}
theorem farK_keep {k x : Nat} (h : farK n E v k x ≠ 0) : farK n E v (k + 1) x = farK n E v k x := by
  show (if _ then _ else _) = _
  rw [if_pos h]
theorem farK_more {k x : Nat} (h : farK n E v k x ≠ 0) : ∀ d, farK n E v (k + d) x = farK n E v k x
  | 0 => rfl
  | d + 1 => by
    have ih := farK_more h d
    rw [show k + (d + 1) = (k + d) + 1 by omega, farK_keep (by rw [ih]; exact h), ih]
theorem farK_le (k x : Nat) : farK n E v k x ≤ k + 1 := by
  induction k with
  | zero =>
    show (if _ then _ else _) ≤ _
    split <;> omega
  | succ k ih =>
    show (if _ then _ else _) ≤ _
    split
    · omega
    · split
      · exact Nat.le_refl _
      · exact Nat.zero_le _
theorem farK_at {k x j : Nat} (h : farK n E v k x = j + 1) : j ≤ k ∧ farK n E v j x = j + 1 := by
  induction k with
  | zero =>
    have := farK_le (n := n) (E := E) (v := v) 0 x
    obtain rfl : j = 0 := by omega
    exact ⟨Nat.le_refl _, h⟩
  | succ k ih =>
    by_cases h0 : farK n E v k x = 0
    · have h1 : farK n E v (k + 1) x = (if farK n E v k x ≠ 0 then farK n E v k x else if ((List.range n).any fun y => E x y && decide (farK n E v k y = k + 1)) = true then k + 2 else 0) := rfl
      rw [if_neg (by omega)] at h1
      split at h1
      · obtain rfl : j = k + 1 := by omega
        exact ⟨Nat.le_refl _, h⟩
      · omega
    · rw [farK_keep h0] at h
      obtain ⟨g1, g2⟩ := ih h
      exact ⟨by omega, g2⟩
theorem farK_next {k x : Nat} (h0 : farK n E v k x = 0) : farK n E v (k + 1) x = if ((List.range n).any fun y => E x y && decide (farK n E v k y = k + 1)) = true then k + 2 else 0 := by
  show (if _ then _ else _) = _
  rw [if_neg (by omega)]
/-- From each node but the nearest some edge leads to one that is nearer. -/
theorem farK_down {k x j : Nat} (h : farK n E v k x = j + 2) : ∃ y, y < n ∧ E x y = true ∧ farK n E v k y = j + 1 := by
  obtain ⟨h1, h2⟩ := farK_at (j := j + 1) h
  have h0 : farK n E v j x = 0 := by
    refine Classical.byContradiction fun hne => ?_
    rw [farK_keep hne] at h2
    have := farK_le (n := n) (E := E) (v := v) j x
    omega
  rw [farK_next h0] at h2
  split at h2
  · rename_i hy
    rw [List.any_eq_true] at hy
    obtain ⟨y, hy, h3⟩ := hy
    rw [Bool.and_eq_true] at h3
    have h4 := of_decide_eq_true h3.2
    have := farK_more (n := n) (E := E) (v := v) (k := j) (x := y) (by omega) (k - j)
    rw [show j + (k - j) = k by omega] at this
    exact ⟨y, List.mem_range.1 hy, h3.1, by omega⟩
  · omega
theorem farK_one {k x : Nat} (h : farK n E v k x = 1) : E x v = true := by
  obtain ⟨_, h2⟩ := farK_at (j := 0) h
  have h3 : (if E x v = true then 1 else 0) = 1 := h2
  split at h3
  · assumption
  · omega
theorem farK_edge {k x : Nat} (h : E x v = true) : farK n E v k x = 1 := by
  have h0 : farK n E v 0 x = 1 := by
    show (if _ then _ else _) = _
    rw [if_pos h]
  have := farK_more (n := n) (E := E) (v := v) (k := 0) (x := x) (by omega) k
  rw [Nat.zero_add] at this
  omega
theorem farK_up {k x y j : Nat} (hy : y < n) (he : E x y = true) (h : farK n E v k y = j + 1) (hj : j < k) : farK n E v k x ≠ 0 := by
  obtain ⟨_, h2⟩ := farK_at h
  by_cases h0 : farK n E v j x = 0
  · have h3 : farK n E v (j + 1) x = j + 2 := by
      rw [farK_next h0, if_pos (by rw [List.any_eq_true]; exact ⟨y, List.mem_range.2 hy, by rw [he, decide_eq_true h2]; rfl⟩)]
    have := farK_more (n := n) (E := E) (v := v) (k := j + 1) (x := x) (by omega) (k - (j + 1))
    rw [show j + 1 + (k - (j + 1)) = k by omega] at this
    omega
  · have := farK_more (n := n) (E := E) (v := v) h0 (k - j)
    rw [show j + (k - j) = k by omega] at this
    omega
/-- As far as some node is there are nodes. -/
theorem farK_chain {k : Nat} : ∀ (j x : Nat), x < n → farK n E v k x = j + 1 → ∃ l : List Nat, l.Nodup ∧ l.length = j + 1 ∧ ∀ y ∈ l, y < n ∧ farK n E v k y ≠ 0 ∧ farK n E v k y ≤ j + 1
  | 0, x, hx, h => ⟨[x], by simp, rfl, fun y hy => by rw [List.mem_singleton] at hy; subst hy; omega⟩
  | j + 1, x, hx, h => by
    obtain ⟨y, hy, _, h2⟩ := farK_down h
    obtain ⟨l, h3, h4, h5⟩ := farK_chain j y hy h2
    refine ⟨x :: l, List.nodup_cons.2 ⟨fun hm => ?_, h3⟩, by rw [List.length_cons, h4], fun z hz => ?_⟩
    · have := h5 x hm; omega
    · rw [List.mem_cons] at hz
      rcases hz with rfl | hz
      · omega
      · have := h5 z hz; omega
theorem farK_lev {k x : Nat} (hx : x < n) : farK n E v k x ≤ n := by
  cases h : farK n E v k x with
  | zero => omega
  | succ j =>
    obtain ⟨l, h1, h2, h3⟩ := farK_chain j x hx h
    have := sub_len l (List.range n) h1 fun y hy => List.mem_range.2 (h3 y hy).1
    simp at this
    omega
theorem farK_full {k x : Nat} (hx : x < n) (h : farK n E v k x = n) {y : Nat} (hy : y < n) : farK n E v k y ≠ 0 := by
  intro h0
  obtain ⟨j, rfl⟩ : ∃ j, n = j + 1 := ⟨n - 1, by omega⟩
  obtain ⟨l, h1, h2, h3⟩ := farK_chain j x hx h
  have := sub_len (y :: l) (List.range (j + 1)) (List.nodup_cons.2 ⟨fun hm => (h3 y hm).2.1 h0, h1⟩) fun z hz => by
    rw [List.mem_cons] at hz
    rw [List.mem_range]
    rcases hz with rfl | hz
    · exact hy
    · exact (h3 z hz).1
  simp at this
  omega
/-- Behind n rounds nothing changes. -/
theorem farK_still {d x : Nat} (hx : x < n) : farK n E v (n - 1 + d) x = farK n E v (n - 1) x := by
  induction d with
  | zero => rfl
  | succ d ih =>
    rw [show n - 1 + (d + 1) = n - 1 + d + 1 by omega]
    by_cases h0 : farK n E v (n - 1 + d) x = 0
    · rw [farK_next h0]
      split
      · rename_i hy
        exfalso
        rw [List.any_eq_true] at hy
        obtain ⟨y, hy, h3⟩ := hy
        rw [Bool.and_eq_true] at h3
        have h4 := of_decide_eq_true h3.2
        have h5 := farK_lev (n := n) (E := E) (v := v) (k := n - 1 + d) (List.mem_range.1 hy)
        exact farK_full (List.mem_range.1 hy) (show farK n E v (n - 1 + d) y = n by omega) hx h0
      · omega
    · rw [farK_keep h0, ih]
/-- Where nothing is new, nothing is behind. -/
theorem farK_end {k : Nat} (h : ∀ x y, x < n → y < n → farK n E v k y = k + 1 → E x y = false) (d : Nat) {x : Nat} (hx : x < n) : farK n E v (k + d) x = farK n E v k x := by
  induction d generalizing x with
  | zero => rfl
  | succ d ih =>
    rw [show k + (d + 1) = k + d + 1 by omega]
    by_cases h0 : farK n E v (k + d) x = 0
    · rw [farK_next h0]
      split
      · rename_i hy
        exfalso
        rw [List.any_eq_true] at hy
        obtain ⟨y, hy, h3⟩ := hy
        have hy := List.mem_range.1 hy
        rw [Bool.and_eq_true] at h3
        have h4 := of_decide_eq_true h3.2
        rw [ih hy] at h4
        have h5 := farK_le (n := n) (E := E) (v := v) k y
        obtain rfl : d = 0 := by omega
        rw [h x y hx hy (by omega)] at h3
        exact absurd h3.1 (by decide)
      · rw [← ih hx]; exact h0.symm
    · rw [farK_keep h0, ih hx]
end
/-- How far it is to v. -/
def farE (n : Nat) (E : Edges) (v x : Nat) : Nat := farK n E v (n - 1) x
theorem farE_stop {n : Nat} {E : Edges} {v k : Nat} (h : ∀ x y, x < n → y < n → farK n E v k y = k + 1 → E x y = false) {x : Nat} (hx : x < n) : farK n E v k x = farE n E v x := by
  unfold farE
  by_cases hk : k ≤ n - 1
  · have := farK_end h (n - 1 - k) hx
    rw [show k + (n - 1 - k) = n - 1 by omega] at this
    exact this.symm
  · have := farK_still (n := n) (E := E) (v := v) (d := k - (n - 1)) hx
    rw [show n - 1 + (k - (n - 1)) = k by omega] at this
    exact this
theorem farE_way {n : Nat} {E : Edges} {v : Nat} : ∀ (j x : Nat), farE n E v x = j + 1 → ∃ l : List Nat, (∀ a ∈ l, a < n) ∧ wayB E x l v = true
  | 0, x, h => ⟨[], by simp, farK_one h⟩
  | j + 1, x, h => by
    obtain ⟨y, hy, he, h2⟩ := farK_down (n := n) (E := E) (v := v) h
    obtain ⟨l, hl, hw⟩ := farE_way j y h2
    exact ⟨y :: l, by simp; exact ⟨hy, hl⟩, by show (E x y && wayB E y l v) = true; rw [he, hw]; rfl⟩
theorem way_farE {n : Nat} {E : Edges} {v : Nat} : ∀ (l : List Nat) (x : Nat), x < n → (∀ a ∈ l, a < n) → wayB E x l v = true → farE n E v x ≠ 0
  | [], x, hx, _, hw => by
    have hw : E x v = true := hw
    unfold farE
    rw [farK_edge hw]
    decide
  | a :: l, x, hx, hl, hw => by
    have hw : (E x a && wayB E a l v) = true := hw
    rw [Bool.and_eq_true] at hw
    have ha := hl a (by simp)
    have ih := way_farE l a ha (fun b hb => hl b (by simp [hb])) hw.2
    unfold farE at ih ⊢
    obtain ⟨j, hj⟩ : ∃ j, farK n E v (n - 1) a = j + 1 := ⟨farK n E v (n - 1) a - 1, by omega⟩
    have hlev := farK_lev (n := n) (E := E) (v := v) (k := n - 1) ha
    by_cases hjn : j + 1 = n
    · exact farK_full ha (hj.trans hjn) hx
    · exact farK_up ha hw.1 hj (by omega)
/-- Does an edge lead on from x to where so many are left? -/
def nearE (n : Nat) (E : Edges) (d : Nat → Nat) (x left : Nat) : Option Nat := (List.range n).find? fun y => E x y && decide (d y = left)
def pathF (n : Nat) (E : Edges) (d : Nat → Nat) (x : Nat) : Nat → List Nat
  | 0 => []
  | l + 1 => match nearE n E d x (l + 1) with
    | some y => y :: pathF n E d y l
    | none => []
/-- A cycle; none: there is none. -/
def findL (n : Nat) (E : Edges) : List Nat := match (List.range n).find? fun v => farE n E v v != 0 with
  | none => []
  | some v => v :: pathF n E (farE n E v) v (farE n E v v - 1)
theorem nearE_some {n : Nat} {E : Edges} {v x l : Nat} (h : farE n E v x = l + 2) : ∃ y, nearE n E (farE n E v) x (l + 1) = some y ∧ y < n ∧ E x y = true ∧ farE n E v y = l + 1 := by
  obtain ⟨z, hz, he, h2⟩ := farK_down (n := n) (E := E) (v := v) h
  cases hf : nearE n E (farE n E v) x (l + 1) with
  | none =>
    unfold nearE at hf
    rw [List.find?_eq_none] at hf
    exact absurd (by rw [he, Bool.true_and]; exact decide_eq_true h2) (hf z (List.mem_range.2 hz))
  | some y =>
    have h1 := List.find?_some hf
    have h3 := List.mem_of_find?_eq_some hf
    rw [Bool.and_eq_true] at h1
    exact ⟨y, rfl, List.mem_range.1 h3, h1.1, of_decide_eq_true h1.2⟩
theorem pathF_step {n : Nat} {E : Edges} {d : Nat → Nat} {x y l : Nat} (h : nearE n E d x (l + 1) = some y) : pathF n E d x (l + 1) = y :: pathF n E d y l := by
  show (match nearE n E d x (l + 1) with | some y => y :: pathF n E d y l | none => []) = _
  rw [h]
theorem pathF_len {n : Nat} {E : Edges} {v : Nat} : ∀ (l x : Nat), farE n E v x = l + 1 → (pathF n E (farE n E v) x l).length = l
  | 0, x, _ => rfl
  | l + 1, x, h => by
    obtain ⟨y, h1, _, _, h4⟩ := nearE_some h
    rw [pathF_step h1, List.length_cons, pathF_len l y h4]
theorem findL_nil {n : Nat} {E : Edges} : findL n E = [] ↔ cycB n E = false := by
  have hcl : ∀ v, v < n → (farE n E v v ≠ 0 ↔ cloE n E v v = true) := fun v hv => by
    constructor
    · intro h
      obtain ⟨l, hl, hw⟩ := farE_way (farE n E v v - 1) v (show farE n E v v = _ by omega)
      exact way_cloTo n l.length l v v (Nat.le_refl _) hl hw
    · intro h
      obtain ⟨l, hl, hw⟩ := cloTo_way n v v h
      exact way_farE l v hv hl hw
  unfold findL cycB
  cases hf : (List.range n).find? fun v => farE n E v v != 0 with
  | none =>
    rw [List.find?_eq_none] at hf
    simp only [true_iff]
    rw [List.any_eq_false]
    intro v hv hc
    exact hf v hv (by rw [bne_iff_ne]; exact (hcl v (List.mem_range.1 hv)).2 hc)
  | some v =>
    have h1 := List.find?_some hf
    have h2 := List.mem_of_find?_eq_some hf
    rw [bne_iff_ne] at h1
    constructor
    · intro h; cases h
    · intro h
      rw [List.any_eq_false] at h
      exact absurd ((hcl v (List.mem_range.1 h2)).1 h1) (h v h2)
theorem findL_lt {n : Nat} {E : Edges} : ∀ x ∈ findL n E, x < n := by
  have hp : ∀ (d : Nat → Nat) (l x : Nat), ∀ y ∈ pathF n E d x l, y < n := by
    intro d l
    induction l with
    | zero => intro x y hy; cases hy
    | succ l ih =>
      intro x y hy
      have hy : y ∈ (match nearE n E d x (l + 1) with | some y => y :: pathF n E d y l | none => []) := hy
      split at hy
      · rename_i z hz
        rw [List.mem_cons] at hy
        rcases hy with rfl | hy
        · exact List.mem_range.1 (List.mem_of_find?_eq_some hz)
        · exact ih _ _ hy
      · cases hy
  intro x hx
  unfold findL at hx
  split at hx
  · cases hx
  · rename_i v hv
    rw [List.mem_cons] at hx
    rcases hx with rfl | hx
    · exact List.mem_range.1 (List.mem_of_find?_eq_some hv)
    · exact hp _ _ _ _ hx
theorem findL_len {n : Nat} {E : Edges} : (findL n E).length ≤ n + 1 := by
  unfold findL
  cases hf : (List.range n).find? fun v => farE n E v v != 0 with
  | none => simp
  | some v =>
    have h1 := List.find?_some hf
    have hv := List.mem_range.1 (List.mem_of_find?_eq_some hf)
    have h0 : farE n E v v ≠ 0 := by simpa using h1
    have hle : farE n E v v ≤ n := farK_lev hv
    rw [List.length_cons, pathF_len (farE n E v v - 1) v (by omega)]
    omega
end Go.Inq

namespace Go.Inq

section
variable {H : List Txn} {l : List Cho} {x y : Nat}
theorem reads_lo (hr : rightH H = true) (hx : x < H.length) {r : It} (h : r ∈ (txnAt H x).reads) : r.b = -1 ∨ ∃ k : Nat, r.b = (k : Int) ∧ k < H.length ∧ k ≠ x ∧ r.a ∈ (txnAt H k).writes := by
  rw [txnAt_of hx] at h
  have h1 := (((rightH_iff H).1 hr).2 x hx).there r h
  rw [thereB_iff] at h1
  rcases h1 with h1 | ⟨k, hk, h1, h2, h3⟩
  · exact .inl h1
  · exact .inr ⟨k, h1, hk, h2, by rw [txnAt_of hk]; exact h3⟩
theorem redE_wr (hr : rightH H = true) (hy : y < H.length) : redE H x y = wrE H x y := by
  unfold redE wrE
  by_cases e : x = y
  · subst e
    have : ((txnAt H x).reads.any fun r => decide (r.b = (x : Int))) = false := by
      rw [List.any_eq_false]
      intro r hm
      rcases reads_lo hr hy hm with g | ⟨k, g1, _, g2, _⟩
      · simp; omega
      · simp; omega
    rw [this]; simp
  · simp [e]
theorem writE_ww (ho : ∀ c ∈ l, oneB H c = true) : writE H l x y = wwE l x y := by
  unfold writE wwE
  rw [Bool.eq_iff_iff, List.any_eq_true, List.any_eq_true]
  constructor
  · rintro ⟨c, hc, h⟩
    unfold chosE at h
    simp only [Bool.and_eq_true] at h
    exact ⟨c, hc, by rw [h.1.1.1.1, h.1.1.1.2]; rfl⟩
  · rintro ⟨c, hc, h⟩
    rw [Bool.and_eq_true, decide_eq_true_eq, decide_eq_true_eq] at h
    obtain ⟨a, b, ha, hb, hne, _, _, h1, h2⟩ := oneB_iff.1 (ho c hc)
    obtain rfl : a = x := by omega
    obtain rfl : b = y := by omega
    refine ⟨c, hc, ?_⟩
    unfold chosE
    rw [decide_eq_true ha, decide_eq_true hb, decide_eq_true hne, List.contains_iff_mem.2 h1, List.contains_iff_mem.2 h2]
    rfl
theorem dirE_full (hr : rightH H = true) (ho : ∀ c ∈ l, oneB H c = true) (hy : y < H.length) : dirE H l x y = orE (pastE H) (wwE l) x y := by
  unfold dirE orE pastE orE
  rw [redE_wr hr hy, writE_ww ho]
theorem overE_full (hr : rightH H = true) (ho : ∀ c ∈ l, oneB H c = true) (hx : x < H.length) : overE H l x y = rwE H l x y := by
  unfold overE rwE initE
  by_cases e : x = y
  · subst e
    have : (l.any fun c => decide (c.b = (x : Int)) && decide (x ≠ x) && (txnAt H x).reads.any fun r => decide (r.a = c.key) && decide (r.b = c.a)) = false := by
      rw [List.any_eq_false]; intro c _; simp
    rw [this]; simp
  · rw [decide_eq_true e, Bool.true_and, Bool.true_and, Bool.eq_iff_iff, Bool.or_eq_true, List.any_eq_true, List.any_eq_true, List.any_eq_true]
    constructor
    · rintro ⟨r, hm, h⟩
      unfold overR at h
      rw [Bool.and_eq_true, Bool.or_eq_true] at h
      obtain ⟨h1, h2⟩ := h
      rcases h2 with h2 | h2
      · left
        have h2 := of_decide_eq_true h2
        rcases reads_lo hr hx hm with g | ⟨k, g, _⟩
        · exact ⟨r, hm, by rw [decide_eq_true g, h1]; rfl⟩
        · omega
      · right
        rw [Bool.and_eq_true, List.any_eq_true] at h2
        obtain ⟨_, c, hc, h3⟩ := h2
        have h3 := of_decide_eq_true h3
        refine ⟨c, hc, ?_⟩
        rw [h3]
        have : ((txnAt H x).reads.any fun r' => decide (r'.a = r.a) && decide (r'.b = r.b)) = true := List.any_eq_true.2 ⟨r, hm, by simp⟩
        simp [this]
    · rintro (⟨r, hm, h⟩ | ⟨c, hc, h⟩)
      · rw [Bool.and_eq_true, decide_eq_true_eq] at h
        refine ⟨r, hm, ?_⟩
        unfold overR
        rw [h.2, decide_eq_true (show r.b < 0 by omega)]
        rfl
      · simp only [Bool.and_eq_true, decide_eq_true_eq, List.any_eq_true] at h
        obtain ⟨⟨h1, -⟩, r, hm, h2, h3⟩ := h
        obtain ⟨a, b, ha, hb, hne, _, _, g1, g2⟩ := oneB_iff.1 (ho c hc)
        obtain rfl : b = y := by omega
        refine ⟨r, hm, ?_⟩
        unfold overR
        rw [Bool.and_eq_true, Bool.or_eq_true]
        refine ⟨by rw [h2, List.contains_iff_mem]; exact g2, .inr ?_⟩
        rw [Bool.and_eq_true, List.any_eq_true]
        refine ⟨decide_eq_true (by omega), c, hc, decide_eq_true ?_⟩
        obtain ⟨ck, ca, cb⟩ := c
        dsimp only at *
        rw [h2, h3, hb]
theorem isB_full {level : Int} (hr : rightH H = true) (hl : level = 0 ∨ level = 1) (ho : ∀ c ∈ l, oneB H c = true) (hx : x < H.length) (hy : y < H.length) : isB H level l x y = fullE H level l x y := by
  have hf : fullE H level l x y = (orE (pastE H) (wwE l) x y || (if level = 1 then thenE H.length (orE (pastE H) (wwE l)) (rwE H l) else rwE H l) x y) := rfl
  rw [hf]
  unfold isB
  rcases hl with rfl | rfl
  · rw [if_pos rfl, if_neg (by decide), directB_nat hr hx hy, antiB_nat hr hx hy, dirE_full hr ho hy, overE_full hr ho hx]
  · rw [if_neg (by decide), if_pos rfl, if_pos rfl]
    unfold thenE
    rw [Bool.eq_iff_iff, List.any_eq_true, Bool.or_eq_true, List.any_eq_true]
    constructor
    · rintro ⟨m, hm, h⟩
      have hm' := List.mem_range.1 hm
      rw [directB_nat hr hx hm', antiB_nat hr hm' hy, dirE_full hr ho hm', overE_full hr ho hm', Bool.and_eq_true, Bool.or_eq_true] at h
      rcases h.2 with h2 | h2
      · left
        have := of_decide_eq_true h2
        obtain rfl : m = y := by omega
        exact h.1
      · exact .inr ⟨m, hm, by rw [h.1, h2]; rfl⟩
    · rintro (h | ⟨m, hm, h⟩)
      · exact ⟨y, List.mem_range.2 hy, by rw [directB_nat hr hx hy, dirE_full hr ho hy, h]; simp⟩
      · have hm' := List.mem_range.1 hm
        rw [Bool.and_eq_true] at h
        exact ⟨m, hm, by rw [directB_nat hr hx hm', antiB_nat hr hm' hy, dirE_full hr ho hm', overE_full hr ho hm', h.1, h.2]; simp⟩
theorem isB_two {level a b : Int} (h : isB H level l a b = true) : ∃ x y : Nat, a = x ∧ b = y ∧ x < H.length ∧ y < H.length := by
  have hd : ∀ {l : List Cho} {a b : Int}, directB H l a b = true → ∃ x y : Nat, a = x ∧ b = y ∧ x < H.length ∧ y < H.length := fun h => by
    unfold directB at h
    rw [Bool.and_eq_true, twoB_iff] at h
    exact h.1.2
  have ha : ∀ {l : List Cho} {a b : Int}, antiB H l a b = true → ∃ x y : Nat, a = x ∧ b = y ∧ x < H.length ∧ y < H.length := fun h => by
    unfold antiB at h
    rw [Bool.and_eq_true, twoB_iff] at h
    exact h.1.2
  unfold isB at h
  split at h
  · rw [Bool.or_eq_true] at h
    exact h.elim hd ha
  · split at h
    · rw [List.any_eq_true] at h
      obtain ⟨m, hm, h⟩ := h
      rw [Bool.and_eq_true, Bool.or_eq_true] at h
      obtain ⟨p, q, h1, h2, h3, h4⟩ := hd h.1
      rcases h.2 with g | g
      · exact ⟨p, m, h1, (of_decide_eq_true g).symm, h3, List.mem_range.1 hm⟩
      · obtain ⟨p', q', g1, g2, g3, g4⟩ := ha g
        exact ⟨p, q', h1, g2, h3, g4⟩
    · cases h
theorem isB_level {level a b : Int} (h : isB H level l a b = true) : level = 0 ∨ level = 1 := by
  unfold isB at h
  split at h
  · exact .inl ‹_›
  · split at h
    · exact .inr ‹_›
    · cases h
theorem isB_right {level a b : Int} (h : isB H level l a b = true) : rightH H = true := by
  have hd : ∀ {l : List Cho} {a b : Int}, directB H l a b = true → rightH H = true := fun h => by
    unfold directB at h
    rw [Bool.and_eq_true, twoB_iff] at h
    exact h.1.1
  unfold isB at h
  split at h
  · rw [Bool.or_eq_true] at h
    rcases h with h | h
    · exact hd h
    · unfold antiB at h
      rw [Bool.and_eq_true, twoB_iff] at h
      exact h.1.1
  · split at h
    · rw [List.any_eq_true] at h
      obtain ⟨m, hm, h⟩ := h
      rw [Bool.and_eq_true] at h
      exact hd h.1
    · cases h
end
/-- A way that comes back is a cycle. -/
theorem way_cyc {n : Nat} {E : Edges} {x : Nat} {l : List Nat} (hx : x < n) (hl : ∀ a ∈ l, a < n) (h : wayB E x l x = true) : cycB n E = true := by
  unfold cycB
  rw [List.any_eq_true]
  exact ⟨x, List.mem_range.2 hx, way_cloTo n l.length l x x (Nat.le_refl _) hl h⟩
theorem cyc_two {n : Nat} {E : Edges} {x y : Nat} (hx : x < n) (hy : y < n) (h1 : E x y = true) (h2 : E y x = true) : cycB n E = true :=
  way_cyc (l := [y]) hx (by simpa using hy) (by show (E x y && E y x) = true; rw [h1, h2]; rfl)
theorem cyc_one {n : Nat} {E : Edges} {x : Nat} (hx : x < n) (h : E x x = true) : cycB n E = true := way_cyc (l := []) hx (by simp) h
theorem cyc_three {n : Nat} {E : Edges} {x y z : Nat} (hx : x < n) (hy : y < n) (hz : z < n) (h1 : E x y = true) (h2 : E y z = true) (h3 : E z x = true) : cycB n E = true :=
  way_cyc (l := [y, z]) hx (by simp; omega) (by show (E x y && (E y z && E z x)) = true; rw [h1, h2, h3]; rfl)
/-- The edges of a row of nodes, one behind the other. -/
theorem way_row {E : Edges} : ∀ (r : List Nat) (x y : Nat), wayB E x r y = true ↔ ∀ i, i < r.length + 1 → E ((x :: r).getD i 0) ((r ++ [y]).getD i 0) = true
  | [], x, y => by
    constructor
    · intro h i hi
      obtain rfl : i = 0 := by simp at hi; omega
      exact h
    · intro h
      exact h 0 (by simp)
  | a :: r, x, y => by
    have hw : wayB E x (a :: r) y = (E x a && wayB E a r y) := rfl
    rw [hw, Bool.and_eq_true, way_row r a y]
    constructor
    · rintro ⟨h1, h2⟩ i hi
      cases i with
      | zero => exact h1
      | succ i => exact h2 i (by simp at hi; omega)
    · intro h
      exact ⟨h 0 (by simp), fun i hi => h (i + 1) (by simp; omega)⟩
/-- A cycle told by its edges is one of the graph. -/
theorem ring_cyc {H : List Txn} {level : Int} {l : List Cho} {row : List Int} (ho : ∀ c ∈ l, oneB H c = true) (h : ringB H level l row = true) : cycB H.length (fullE H level l) = true := by
  unfold ringB at h
  rw [Bool.and_eq_true, List.all_eq_true] at h
  have h0 : 0 < row.length := of_decide_eq_true h.1
  have he : ∀ i, i < row.length → isB H level l (row.getD i 0) (row.getD ((i + 1) % row.length) 0) = true := fun i hi => by
    have := h.2 i (List.mem_range.2 hi)
    rw [Bool.and_eq_true] at this
    exact this.2
  have hlev := isB_level (he 0 h0)
  have hri := isB_right (he 0 h0)
  have hnat : ∀ i, i < row.length → row.getD i 0 = ((row.getD i 0).toNat : Int) ∧ (row.getD i 0).toNat < H.length := fun i hi => by
    obtain ⟨x, y, e, -, hx, -⟩ := isB_two (he i hi)
    rw [e]; simp; exact hx
  have hE : ∀ i, i < row.length → fullE H level l (row.getD i 0).toNat (row.getD ((i + 1) % row.length) 0).toNat = true := fun i hi => by
    obtain ⟨g1, g2⟩ := hnat i hi
    obtain ⟨g3, g4⟩ := hnat ((i + 1) % row.length) (Nat.mod_lt _ h0)
    rw [← isB_full hri hlev ho g2 g4, ← g1, ← g3]
    exact he i hi
  clear h he
  cases row with
  | nil => simp at h0
  | cons x r =>
    refine way_cyc (x := x.toNat) (l := r.map Int.toNat) (hnat 0 h0).2 ?_ ?_
    · intro a ha
      obtain ⟨y, hy, rfl⟩ := List.mem_map.1 ha
      obtain ⟨i, hi, rfl⟩ := List.getElem_of_mem hy
      have := (hnat (i + 1) (by simp; omega)).2
      simpa [List.getD_eq_getElem?_getD, List.getElem?_eq_getElem hi] using this
    · rw [way_row]
      intro i hi
      rw [List.length_map] at hi
      have := hE i (by simpa using hi)
      have e1 : (x.toNat :: r.map Int.toNat).getD i 0 = ((x :: r).getD i 0).toNat := by
        rw [show x.toNat :: r.map Int.toNat = (x :: r).map Int.toNat by rfl, List.getD_eq_getElem?_getD, List.getD_eq_getElem?_getD, List.getElem?_map]
        rw [List.getElem?_eq_getElem (show i < (x :: r).length by simpa using hi)]
        rfl
      have e2 : (r.map Int.toNat ++ [x.toNat]).getD i 0 = ((x :: r).getD ((i + 1) % (x :: r).length) 0).toNat := by
        rw [show r.map Int.toNat ++ [x.toNat] = (r ++ [x]).map Int.toNat by simp, List.getD_eq_getElem?_getD, List.getElem?_map, List.getD_eq_getElem?_getD]
        by_cases hlt : i < r.length
        · rw [List.getElem?_append_left hlt, Nat.mod_eq_of_lt (show i + 1 < (x :: r).length by simp; omega), List.getElem?_cons_succ, List.getElem?_eq_getElem hlt]
          rfl
        · obtain rfl : i = r.length := by omega
          rw [List.getElem?_append_right (Nat.le_refl _), Nat.sub_self, show (r.length + 1) % (x :: r).length = 0 by simp]
          rfl
      rw [e1, e2]
      exact this
/-- What Find finds, from a node on. -/
theorem pathF_way {n : Nat} {E : Edges} {v : Nat} : ∀ (l x : Nat), farE n E v x = l + 1 → wayB E x (pathF n E (farE n E v) x l) v = true
  | 0, x, h => farK_one h
  | l + 1, x, h => by
    obtain ⟨y, h1, _, h3, h4⟩ := nearE_some h
    rw [pathF_step h1]
    show (E x y && wayB E y _ v) = true
    rw [h3, pathF_way l y h4]; rfl
theorem pathF_far {n : Nat} {E : Edges} {v : Nat} : ∀ (l x : Nat), farE n E v x = l + 1 → ∀ y ∈ pathF n E (farE n E v) x l, farE n E v y ≤ l
  | 0, x, h, y, hy => by cases hy
  | l + 1, x, h, y, hy => by
    obtain ⟨z, h1, _, _, h4⟩ := nearE_some h
    rw [pathF_step h1, List.mem_cons] at hy
    rcases hy with rfl | hy
    · omega
    · have := pathF_far l z h4 y hy; omega
theorem pathF_nodup {n : Nat} {E : Edges} {v : Nat} : ∀ (l x : Nat), farE n E v x = l + 1 → (x :: pathF n E (farE n E v) x l).Nodup
  | 0, x, h => by simp [pathF]
  | l + 1, x, h => by
    obtain ⟨z, h1, _, _, h4⟩ := nearE_some h
    refine List.nodup_cons.2 ⟨fun hm => ?_, ?_⟩
    · have := pathF_far (l + 1) x h x hm; omega
    · rw [pathF_step h1]; exact pathF_nodup l z h4
/-- What Find finds is a cycle, of nodes that are each there once. -/
theorem findL_ring {n : Nat} {E : Edges} (h : findL n E ≠ []) : ∃ x r, findL n E = x :: r ∧ (x :: r).Nodup ∧ wayB E x r x = true := by
  unfold findL at h ⊢
  split at h
  · exact absurd rfl h
  · rename_i v hv
    have h1 := List.find?_some hv
    rw [bne_iff_ne] at h1
    have hj : farE n E v v = (farE n E v v - 1) + 1 := by omega
    exact ⟨v, _, rfl, pathF_nodup _ v hj, pathF_way _ v hj⟩
/-- A cycle that is found, in numbers. -/
def findC (H : List Txn) (level : Int) (l : List Cho) : List Int := (findL H.length (fullE H level l)).map fun (x : Nat) => (x : Int)
theorem findC_nil {H : List Txn} {level : Int} {l : List Cho} : findC H level l = [] ↔ cycB H.length (fullE H level l) = false := by
  unfold findC
  rw [List.map_eq_nil_iff]
  exact findL_nil
theorem findC_ring {H : List Txn} {level : Int} {l : List Cho} (hr : rightH H = true) (hl : level = 0 ∨ level = 1) (ho : ∀ c ∈ l, oneB H c = true) (h : findC H level l ≠ []) : ringB H level l (findC H level l) = true := by
  have h0 : findL H.length (fullE H level l) ≠ [] := fun e => h (by unfold findC; rw [e]; rfl)
  obtain ⟨x, r, e, hnd, hw⟩ := findL_ring h0
  have hlt : ∀ a ∈ x :: r, a < H.length := fun a ha => findL_lt a (by rw [e]; exact ha)
  unfold findC
  rw [e]
  unfold ringB
  rw [List.length_map, decide_eq_true (show 0 < (x :: r).length by simp), Bool.true_and, List.all_eq_true]
  intro i hi
  have hi := List.mem_range.1 hi
  have hj : (i + 1) % (x :: r).length < (x :: r).length := Nat.mod_lt _ (by simp)
  have g1 : ((x :: r).map fun (x : Nat) => (x : Int)).getD i 0 = (((x :: r)[i] : Nat) : Int) := by
    rw [List.getD_eq_getElem?_getD, List.getElem?_map, List.getElem?_eq_getElem hi]; rfl
  have g2 : ((x :: r).map fun (x : Nat) => (x : Int)).getD ((i + 1) % (x :: r).length) 0 = (((x :: r)[(i + 1) % (x :: r).length] : Nat) : Int) := by
    rw [List.getD_eq_getElem?_getD, List.getElem?_map, List.getElem?_eq_getElem hj]; rfl
  rw [g1, g2, Bool.and_eq_true]
  constructor
  · rw [← List.map_take]
    rw [Bool.not_eq_true', ← Bool.not_eq_true, List.contains_iff_mem]
    intro hm
    obtain ⟨y, hy, e2⟩ := List.mem_map.1 hm
    obtain ⟨k, hk, e3⟩ := List.mem_take_iff_getElem.1 hy
    have := List.pairwise_iff_getElem.1 (List.nodup_iff_pairwise_ne.1 hnd) k i (by omega) hi (by omega)
    exact this (by rw [e3]; omega)
  · rw [isB_full hr hl ho (hlt _ (List.getElem_mem hi)) (hlt _ (List.getElem_mem hj))]
    rw [way_row] at hw
    have := hw i (by simpa using hi)
    have e1 : (x :: r).getD i 0 = (x :: r)[i] := by rw [List.getD_eq_getElem?_getD, List.getElem?_eq_getElem hi]; rfl
    have e2 : (r ++ [x]).getD i 0 = (x :: r)[(i + 1) % (x :: r).length] := by
      have h3 : (r ++ [x])[i]? = (x :: r)[(i + 1) % (x :: r).length]? := by
        by_cases hl2 : i < r.length
        · rw [List.getElem?_append_left hl2, Nat.mod_eq_of_lt (show i + 1 < (x :: r).length by simp; omega), List.getElem?_cons_succ]
        · have : i = r.length := by simp at hi; omega
          subst this
          rw [List.getElem?_append_right (Nat.le_refl _), Nat.sub_self, show (r.length + 1) % (x :: r).length = 0 by simp]
          rfl
      rw [List.getD_eq_getElem?_getD, h3, List.getElem?_eq_getElem hj]; rfl
    rw [e1, e2] at this
    exact this
end Go.Inq

namespace Go.Inq

/-- A node of a tree. -/
structure Nod where
  c : Cho
  cyc : List Int
deriving DecidableEq
def zeroC : Cho := ⟨0, 0, 0⟩
def zeroF : Fct := ⟨zeroC, 0, 0, 0, []⟩
def chosL (L : List Fct) : List Cho := L.map (·.c)
theorem chosL_len (L : List Fct) : (chosL L).length = L.length := List.length_map ..
theorem chosL_snoc (L : List Fct) (f : Fct) : chosL (L ++ [f]) = chosL L ++ [f.c] := by unfold chosL; rw [List.map_append]; rfl
theorem chosL_take (L : List Fct) (i : Nat) : chosL (L.take i) = (chosL L).take i := by unfold chosL; rw [List.map_take]
/-- Does each fact follow from those ahead of it? -/
def replTo (H : List Txn) (level : Int) (L : List Fct) (n : Nat) : Bool := (List.range n).all fun i => holdsB H level (L.take i) (L.getD i zeroF)
def replB (H : List Txn) (level : Int) (L : List Fct) : Bool := replTo H level L L.length && mayB H level
theorem replTo_step (H : List Txn) (level : Int) (L : List Fct) (n : Nat) : replTo H level L (n + 1) = (replTo H level L n && holdsB H level (L.take n) (L.getD n zeroF)) := by
  unfold replTo
  rw [List.range_succ, List.all_append]; simp
theorem replTo_at {H : List Txn} {level : Int} {L : List Fct} {n i : Nat} (h : replTo H level L n = true) (hi : i < n) : holdsB H level (L.take i) (L.getD i zeroF) = true := by
  unfold replTo at h
  rw [List.all_eq_true] at h
  exact h i (List.mem_range.2 hi)
theorem replTo_no {H : List Txn} {level : Int} {L : List Fct} {n i : Nat} (h : holdsB H level (L.take i) (L.getD i zeroF) = false) (hi : i < n) : replTo H level L n = false := by
  unfold replTo
  rw [List.all_eq_false]
  exact ⟨i, List.mem_range.2 hi, by rw [h]; decide⟩
theorem getD_of {α : Type} {l : List α} {i : Nat} {d : α} (h : i < l.length) : l.getD i d = l[i] := by rw [List.getD_eq_getElem?_getD, List.getElem?_eq_getElem h]; rfl
theorem replB_at {H : List Txn} {level : Int} {L : List Fct} (h : replB H level L = true) {i : Nat} (hi : i < L.length) : holdsB H level (L.take i) L[i] = true := by
  unfold replB at h
  rw [Bool.and_eq_true] at h
  have := replTo_at h.1 hi
  rwa [getD_of hi] at this
theorem replB_may {H : List Txn} {level : Int} {L : List Fct} (h : replB H level L = true) : mayB H level = true := by
  unfold replB at h
  rw [Bool.and_eq_true] at h
  exact h.2
theorem may_iff {H : List Txn} {level : Int} : mayB H level = true ↔ rightH H = true ∧ (level = 0 ∨ level = 1) := by
  unfold mayB
  rw [Bool.and_eq_true, Bool.or_eq_true, decide_eq_true_eq, decide_eq_true_eq]
theorem replB_iff {H : List Txn} {level : Int} {L : List Fct} : replB H level L = true ↔ mayB H level = true ∧ ∀ i (hi : i < L.length), holdsB H level (L.take i) L[i] = true := by
  constructor
  · intro h
    exact ⟨replB_may h, fun i hi => replB_at h hi⟩
  · rintro ⟨h1, h2⟩
    unfold replB replTo
    rw [h1, Bool.and_true, List.all_eq_true]
    intro i hi
    have hi := List.mem_range.1 hi
    rw [getD_of hi]
    exact h2 i hi
theorem replB_take {H : List Txn} {level : Int} {L : List Fct} (h : replB H level L = true) (n : Nat) : replB H level (L.take n) = true := by
  rw [replB_iff] at h ⊢
  refine ⟨h.1, fun i hi => ?_⟩
  rw [List.length_take] at hi
  rw [List.take_take, Nat.min_eq_left (by omega), List.getElem_take]
  exact h.2 i (by omega)
theorem replB_snoc {H : List Txn} {level : Int} {L : List Fct} {f : Fct} : replB H level (L ++ [f]) = (replB H level L && holdsB H level L f) := by
  rw [Bool.eq_iff_iff, Bool.and_eq_true]
  constructor
  · intro h
    have h1 := replB_take h L.length
    rw [List.take_left] at h1
    have h2 := replB_at h (i := L.length) (by simp)
    rw [List.take_left] at h2
    simp at h2
    exact ⟨h1, h2⟩
  · rintro ⟨h1, h2⟩
    rw [replB_iff] at h1 ⊢
    refine ⟨h1.1, fun i hi => ?_⟩
    rw [List.length_append, List.length_singleton] at hi
    by_cases hl : i < L.length
    · rw [List.take_append_of_le_length (by omega), List.getElem_append_left hl]
      exact h1.2 i hl
    · obtain rfl : i = L.length := by omega
      rw [List.take_left]
      simpa using h2
theorem holds_one {H : List Txn} {level : Int} {L : List Fct} {f : Fct} (h : holdsB H level L f = true) : oneB H f.c = true := by
  unfold holdsB at h
  simp only [Bool.and_eq_true] at h
  exact h.1.1.2
theorem holds_may {H : List Txn} {level : Int} {L : List Fct} {f : Fct} (h : holdsB H level L f = true) : mayB H level = true := by
  unfold holdsB at h
  simp only [Bool.and_eq_true] at h
  exact h.1.1.1
theorem repl_one {H : List Txn} {level : Int} {L : List Fct} (h : replB H level L = true) : ∀ c ∈ chosL L, oneB H c = true := fun c hc => by
  unfold chosL at hc
  obtain ⟨f, hf, rfl⟩ := List.mem_map.1 hc
  obtain ⟨i, hi, rfl⟩ := List.getElem_of_mem hf
  exact holds_one (replB_at h hi)
theorem repl_right {H : List Txn} {level : Int} {L : List Fct} (h : replB H level L = true) (hn : L.length ≤ 20000) : rightC H (chosL L) = true := by
  unfold rightC
  rw [(may_iff.1 (replB_may h)).1, chosL_len, decide_eq_true hn, Bool.true_and, Bool.true_and, List.all_eq_true]
  exact repl_one h

/-- The leaf that shows that a fact can't be turned. -/
def leafU (H : List Txn) (level : Int) (L : List Fct) (i : Nat) : Nod := ⟨zeroC, findC H level (chosL (L.take i) ++ [turnB (L.getD i zeroF).c])⟩
/-- A tree that has facts in front of it. -/
def underL (H : List Txn) (level : Int) (L : List Fct) (tree : List Nod) : List Nod :=
  L.map (fun f => ⟨f.c, []⟩) ++ tree ++ (List.range L.length).map fun k => leafU H level L (L.length - 1 - k)
/-- The first pair that choices do not decide. -/
def openO (H : List Txn) (l : List Cho) : Option Cho := (pairsL H).find? fun p => !l.contains p && !l.contains (turnB p)
/-- What a strategy says. -/
structure Say where
  said : Int
  order : List Nat
  tree : List Nod
  facts : List Fct
deriving DecidableEq
def stuckS : Say := ⟨3, [], [], []⟩
def goesS : Say := ⟨0, [], [], []⟩
def satR (H : List Txn) (at' idle : Int) : Bool := rightH H && decide (0 ≤ idle) && decide (idle ≤ ((pairsL H).length : Int)) && decide (0 ≤ at') && decide (at' < max ((pairsL H).length : Int) 1)
/-- What is said when all pairs were looked at. -/
def overS (H : List Txn) (level : Int) (L : List Fct) : Say :=
  match openO H (chosL L) with
  | some _ => stuckS
  | none => match orderT H.length (fullE H level (chosL L)) with
    | some o => ⟨1, o, [], []⟩
    | none => ⟨2, [], underL H level L [⟨zeroC, findC H level (chosL L)⟩], []⟩
/-- A fact of a choice by two others. -/
def joinC (c : Cho) (x : Nat × Nat) : Fct := ⟨c, 2, (x.1 : Int), (x.2 : Int), []⟩
def twoL (n : Nat) : List (Nat × Nat) := ((List.range n).map fun i => (List.range n).map fun j => (i, j)).flatten
def joinF (H : List Txn) (level : Int) (L : List Fct) (c : Cho) : Option Fct := ((twoL L.length).map (joinC c)).find? (holdsB H level L)
/-- What is said of a pair that is open. -/
def oneS (H : List Txn) (level : Int) (L : List Fct) (p : Cho) : Say :=
  match joinF H level L p with
  | some f => ⟨0, [], [], [f]⟩
  | none => match joinF H level L (turnB p) with
    | some f => ⟨0, [], [], [f]⟩
    | none =>
      let a := findC H level (chosL L ++ [turnB p])
      let b := findC H level (chosL L ++ [p])
      if a = [] then if b = [] then goesS else ⟨0, [], [], [⟨turnB p, 4, 0, 0, b⟩]⟩
      else if b = [] then ⟨0, [], [], [⟨p, 4, 0, 0, a⟩]⟩
      else ⟨2, [], underL H level L [⟨p, []⟩, ⟨zeroC, b⟩, ⟨zeroC, a⟩], []⟩
/-- A step of Saturate: the state behind it, and what it says. -/
def stepS (H : List Txn) (level at' idle : Int) (L : List Fct) : (Int × Int) × Say :=
  if satR H at' idle && decide (L.length < 20000) && replB H level L then
    if idle = ((pairsL H).length : Int) then ((at', idle), overS H level L)
    else
      let p := (pairsL H).getD at'.toNat zeroC
      let at2 : Int := (((at'.toNat + 1) % (pairsL H).length : Nat) : Int)
      if (chosL L).contains p || (chosL L).contains (turnB p) then ((at2, idle + 1), goesS)
      else
        let o := oneS H level L p
        ((at2, if o.facts = [] then idle + 1 else 0), o)
  else ((at', idle), stuckS)
theorem openO_none {H : List Txn} {l : List Cho} (h : openO H l = none) {p : Cho} (hp : p ∈ pairsL H) : p ∈ l ∨ turnB p ∈ l := by
  unfold openO at h
  rw [List.find?_eq_none] at h
  have := h p hp
  simp at this
  exact Classical.or_iff_not_imp_left.2 this
theorem openO_some {H : List Txn} {l : List Cho} {p : Cho} (h : openO H l = some p) : p ∈ pairsL H ∧ p ∉ l ∧ turnB p ∉ l := by
  unfold openO at h
  have h1 := List.find?_some h
  have h2 := List.mem_of_find?_eq_some h
  simp at h1
  exact ⟨h2, h1⟩
theorem joinF_some {H : List Txn} {level : Int} {L : List Fct} {c : Cho} {f : Fct} (h : joinF H level L c = some f) : holdsB H level L f = true ∧ f.c = c := by
  unfold joinF at h
  have h1 := List.find?_some h
  have h2 := List.mem_of_find?_eq_some h
  obtain ⟨x, _, rfl⟩ := List.mem_map.1 h2
  exact ⟨h1, rfl⟩
theorem turn_turn (c : Cho) : turnB (turnB c) = c := rfl
/-- A fact of a cycle holds. -/
theorem forced_holds {H : List Txn} {level : Int} {L : List Fct} {c : Cho} (hm : mayB H level = true) (hL : ∀ d ∈ chosL L, oneB H d = true) (hc : oneB H c = true) (h : findC H level (chosL L ++ [turnB c]) ≠ []) : holdsB H level L ⟨c, 4, 0, 0, findC H level (chosL L ++ [turnB c])⟩ = true := by
  obtain ⟨h1, h2⟩ := may_iff.1 hm
  have ho : ∀ d ∈ chosL L ++ [turnB c], oneB H d = true := fun d hd => by
    rw [List.mem_append, List.mem_singleton] at hd
    rcases hd with hd | rfl
    · exact hL d hd
    · exact turn_one hc
  have hr := findC_ring h1 h2 ho h
  unfold holdsB whyB forcB
  dsimp only
  rw [hm, hc]
  simp only [Bool.true_and, decide_true, Bool.true_or, if_neg (show ¬ (4 : Int) = 1 by decide), if_neg (show ¬ (4 : Int) = 2 by decide), if_neg (show ¬ (4 : Int) = 3 by decide), if_true]
  exact hr
/-- What is found holds. -/
theorem oneS_holds {H : List Txn} {level : Int} {L : List Fct} {p : Cho} (hr : replB H level L = true) (hp : oneB H p = true) {f : Fct} (hf : f ∈ (oneS H level L p).facts) : holdsB H level L f = true ∧ (f.c = p ∨ f.c = turnB p) := by
  have hm := replB_may hr
  have hL := repl_one hr
  unfold oneS at hf
  split at hf
  · rename_i g hg
    obtain rfl : f = g := by simpa using hf
    exact ⟨(joinF_some hg).1, .inl (joinF_some hg).2⟩
  · split at hf
    · rename_i g hg
      obtain rfl : f = g := by simpa using hf
      exact ⟨(joinF_some hg).1, .inr (joinF_some hg).2⟩
    · dsimp only at hf
      split at hf
      · split at hf
        · cases hf
        · rename_i h1
          have hf : f = ⟨turnB p, 4, 0, 0, findC H level (chosL L ++ [p])⟩ := by simpa using hf
          subst hf
          exact ⟨forced_holds (c := turnB p) hm hL (turn_one hp) h1, .inr rfl⟩
      · split at hf
        · rename_i h1 _
          have hf : f = ⟨p, 4, 0, 0, findC H level (chosL L ++ [turnB p])⟩ := by simpa using hf
          subst hf
          exact ⟨forced_holds hm hL hp h1, .inl rfl⟩
        · cases hf
theorem oneS_said (H : List Txn) (level : Int) (L : List Fct) (p : Cho) : ((oneS H level L p).said = 0 ∧ (oneS H level L p).facts.length ≤ 1) ∨ ((oneS H level L p).said = 2 ∧ (oneS H level L p).facts = []) := by
  unfold oneS
  split
  · exact .inl ⟨rfl, Nat.le_refl _⟩
  · split
    · exact .inl ⟨rfl, Nat.le_refl _⟩
    · dsimp only
      split
      · split
        · exact .inl ⟨rfl, Nat.zero_le _⟩
        · exact .inl ⟨rfl, Nat.le_refl _⟩
      · split
        · exact .inl ⟨rfl, Nat.le_refl _⟩
        · exact .inr ⟨rfl, rfl⟩
theorem overS_said (H : List Txn) (level : Int) (L : List Fct) : (overS H level L).said ≠ 0 ∧ (overS H level L).facts = [] := by
  unfold overS
  split
  · exact ⟨by show (3 : Int) ≠ 0; decide, rfl⟩
  · split
    · exact ⟨by show (1 : Int) ≠ 0; decide, rfl⟩
    · exact ⟨by show (2 : Int) ≠ 0; decide, rfl⟩
end Go.Inq

namespace Go.Proofs.YtjomijnbnbideaaGreatDoor
open Go.RowKit Go.Inq
set_option maxHeartbeats 1000000

/-- A fact's cells. -/
def FctR (w : World) (K : Nat → Prop) (cs : List Value) (f : Fct) : Prop := ∃ A c, cs = [.int .i64 f.c.key, .int .i64 f.c.a, .int .i64 f.c.b, .int .i64 f.kind, .int .i64 f.i, .int .i64 f.j, .slice A f.cyc.length c] ∧ IntS w K (.slice A f.cyc.length c) f.cyc
theorem FctR.stab : Stab FctR := fun _ _ _ _ _ _ h ha hk => by
  obtain ⟨A, c, h1, h2⟩ := h
  exact ⟨A, c, h1, IntS.keep h2 ha hk⟩
def FctS (w : World) (K : Nat → Prop) (v : Value) (l : List Fct) : Prop := SlR 7 FctR w K v l
section
variable {w w' : World} {K K' : Nat → Prop} {v : Value} {l : List Fct}
theorem FctS.keep (h : FctS w K v l) (ha : Agree K w w') (hk : ∀ b, K b → K' b) : FctS w' K' v l := SlR.keep FctR.stab h ha hk
theorem FctS.below (h : FctS w (Old w) v l) (hb : Below w.heap.size w w') : FctS w' (Old w') v l := SlR.below FctR.stab h hb
theorem FctS.fit (h : FctS w K v l) (hk : ∀ b, K b → K' b) : FctS w K' v l := SlR.fit FctR.stab h hk
theorem FctS.nil (w : World) (K : Nat → Prop) (A : Option Addr) (c : Nat) : FctS w K (.slice A 0 c) [] := SlR.nil _ _ _ _ _ _
theorem FctS.take {A : Option Addr} {n c : Nat} (h : FctS w K (.slice A n c) l) {k : Nat} (hk : k ≤ l.length) : FctS w K (.slice A k c) (l.take k) := SlR.take h hk
theorem FctS.cap {A : Option Addr} {n c : Nat} (h : FctS w K (.slice A n c) l) : l.length ≤ c := by
  obtain ⟨_, _, e, h1⟩ := SlR.len h
  simp only [Value.slice.injEq] at e
  omega
/-- A fact in memory: its cells, and its cycle. -/
structure FctAt (w : World) (K : Nat → Prop) (b o : Nat) (f : Fct) (Ay : Option Addr) (cy : Nat) : Prop where
  d0 : w.cell? ⟨b, o, none⟩ = some (.int .i64 f.c.key)
  d1 : w.cell? ⟨b, o + 1, none⟩ = some (.int .i64 f.c.a)
  d2 : w.cell? ⟨b, o + 2, none⟩ = some (.int .i64 f.c.b)
  d3 : w.cell? ⟨b, o + 3, none⟩ = some (.int .i64 f.kind)
  d4 : w.cell? ⟨b, o + 4, none⟩ = some (.int .i64 f.i)
  d5 : w.cell? ⟨b, o + 5, none⟩ = some (.int .i64 f.j)
  d6 : w.cell? ⟨b, o + 6, none⟩ = some (.slice Ay f.cyc.length cy)
  cyc : IntS w K (.slice Ay f.cyc.length cy) f.cyc
theorem FctS.at_ {A : Option Addr} {n c : Nat} (h : FctS w K (.slice A n c) l) {i : Nat} (hi : i < l.length) : ∃ b off Ay cy, A = some ⟨b, off, none⟩ ∧ K b ∧ FctAt w K b (off + i * 7) l[i] Ay cy := by
  obtain ⟨b, off, cs, hA, hK, -, ⟨Ay, cy, rfl, hy⟩, hc⟩ := SlR.at_ h hi
  exact ⟨b, off, Ay, cy, hA, hK, hc 0 _ rfl, hc 1 _ rfl, hc 2 _ rfl, hc 3 _ rfl, hc 4 _ rfl, hc 5 _ rfl, hc 6 _ rfl, hy⟩
end
/-- A node's cells. -/
def NodR (w : World) (K : Nat → Prop) (cs : List Value) (n : Nod) : Prop := ∃ A c, cs = [.int .i64 n.c.key, .int .i64 n.c.a, .int .i64 n.c.b, .slice A n.cyc.length c] ∧ IntS w K (.slice A n.cyc.length c) n.cyc
theorem NodR.stab : Stab NodR := fun _ _ _ _ _ _ h ha hk => by
  obtain ⟨A, c, h1, h2⟩ := h
  exact ⟨A, c, h1, IntS.keep h2 ha hk⟩
def NodS (w : World) (K : Nat → Prop) (v : Value) (l : List Nod) : Prop := SlR 4 NodR w K v l
section
variable {w w' : World} {K K' : Nat → Prop} {v : Value} {l : List Nod}
theorem NodS.keep (h : NodS w K v l) (ha : Agree K w w') (hk : ∀ b, K b → K' b) : NodS w' K' v l := SlR.keep NodR.stab h ha hk
theorem NodS.below (h : NodS w (Old w) v l) (hb : Below w.heap.size w w') : NodS w' (Old w') v l := SlR.below NodR.stab h hb
theorem NodS.fit (h : NodS w K v l) (hk : ∀ b, K b → K' b) : NodS w K' v l := SlR.fit NodR.stab h hk
theorem NodS.nil (w : World) (K : Nat → Prop) (A : Option Addr) (c : Nat) : NodS w K (.slice A 0 c) [] := SlR.nil _ _ _ _ _ _
theorem NodS.cap {A : Option Addr} {n c : Nat} (h : NodS w K (.slice A n c) l) : l.length ≤ c := by
  obtain ⟨_, _, e, h1⟩ := SlR.len h
  simp only [Value.slice.injEq] at e
  omega
structure NodAt (w : World) (K : Nat → Prop) (b o : Nat) (n : Nod) (Ay : Option Addr) (cy : Nat) : Prop where
  d0 : w.cell? ⟨b, o, none⟩ = some (.int .i64 n.c.key)
  d1 : w.cell? ⟨b, o + 1, none⟩ = some (.int .i64 n.c.a)
  d2 : w.cell? ⟨b, o + 2, none⟩ = some (.int .i64 n.c.b)
  d3 : w.cell? ⟨b, o + 3, none⟩ = some (.slice Ay n.cyc.length cy)
  cyc : IntS w K (.slice Ay n.cyc.length cy) n.cyc
theorem NodS.at_ {A : Option Addr} {n c : Nat} (h : NodS w K (.slice A n c) l) {i : Nat} (hi : i < l.length) : ∃ b off Ay cy, A = some ⟨b, off, none⟩ ∧ K b ∧ NodAt w K b (off + i * 4) l[i] Ay cy := by
  obtain ⟨b, off, cs, hA, hK, -, ⟨Ay, cy, rfl, hy⟩, hc⟩ := SlR.at_ h hi
  exact ⟨b, off, Ay, cy, hA, hK, hc 0 _ rfl, hc 1 _ rfl, hc 2 _ rfl, hc 3 _ rfl, hy⟩
end
/-- Sizes of facts and nodes that a walk can count. -/
def FitF (L : List Fct) : Prop := L.length ≤ 1000000 ∧ ∀ f ∈ L, f.cyc.length ≤ 1000000
def FitN (l : List Nod) : Prop := l.length ≤ 100000000 ∧ ∀ n ∈ l, n.cyc.length ≤ 1000000
end Go.Proofs.YtjomijnbnbideaaGreatDoor

namespace Go.Inq
open Go
section
variable {P : Program} {ops : Array Oper} {Q : Exit → Act → World → Prop} {a b a0 : Act}

theorem Flo.congr {vs vs' : Nat → Value} {L : Nat → Bool} (h : Flo ops a0 vs L a) (hv : ∀ j, L j = true → vs j = vs' j) : Flo ops a0 vs' L a :=
  ⟨h.defers, h.size, fun j o t hj hd hl hs => by rw [← hv j hl]; exact h.hit j o t hj hd hl hs, h.miss⟩

theorem wpOp_rel {i : Nat} {o : Oper} {w : World} {R : Value → World → Prop} {K : Act → World → Prop} (ho : ops[i]? = some o) (hsel : ∀ cs b, o.op ≠ .select cs b)
    (hr : ∀ t ∈ readsT ops o, a.tmps[t]? = b.tmps[t]?) (hs : a.tmps.size = b.tmps.size) (hK : ∀ v w', R v w' → K (a.put o.dst v) w')
    (h : wpList P ops (fun e a' w' => e = .normal ∧ ∃ v, a' = b.put o.dst v ∧ R v w') [o] b w) : wpOp P ops Q i K a w := by
  have hw : Region.wanted o (yielded ops a.tmps) = Region.wanted o (yielded ops b.tmps) := by
    unfold Region.wanted
    cases hg : o.guard with
    | none => rfl
    | some g =>
      obtain ⟨j, x⟩ := g
      dsimp only
      have : yielded ops a.tmps j = yielded ops b.tmps j := by
        unfold yielded
        cases hd : (ops[j]?).bind (·.dst) with
        | none => rfl
        | some t =>
          have hm : t ∈ readsT ops o := by
            unfold readsT
            rw [hg]
            refine List.mem_append.2 (.inr ?_)
            show t ∈ ((ops[j]?).bind (·.dst)).toList
            rw [hd]
            simp
          simp only [Option.bind_some]
          rw [hr t hm]
      rw [this]
  have he : execOp a.eval o = execOp b.eval o := by
    refine execOp_congr o hsel fun x hx => ?_
    cases x with
    | tmp t =>
      have hm : t ∈ readsT ops o := by
        unfold readsT
        refine List.mem_append.2 (.inl ?_)
        rw [List.mem_filterMap]
        exact ⟨.tmp t, by simpa using hx, rfl⟩
      have := hr t hm
      simp only [Act.eval, Array.getD_eq_getD_getElem?, this]
    | _ => rfl
  unfold wpOp
  rw [ho]
  dsimp only
  unfold wpList at h
  rw [hw]
  by_cases hwd : Region.wanted o (yielded ops b.tmps) = true
  · rw [if_pos hwd] at h ⊢
    left
    rcases h with h | ⟨_, _, _, h, _⟩
    · unfold Oper.wp at *
      rw [he]
      generalize (execOp b.eval o).run P w = r at h
      have key : ∀ u w', wpList P ops (fun e a' w' => e = .normal ∧ ∃ v, a' = b.put o.dst v ∧ R v w') [] (b.put o.dst u) w' → K (a.put o.dst u) w' := fun u w' h => by
        unfold wpList at h
        obtain ⟨_, v, h1, h2⟩ := h
        rw [put_inj hs h1]
        exact hK v w' h2
      cases r with
      | halt x w' =>
        cases x <;> simp only [Oper.upon] at h ⊢
        exact absurd h.1 (by simp)
      | ok n w' =>
        cases n with
        | value u => exact key u w' h
        | skip => exact key undef w' h
        | defer d =>
          simp only [Oper.upon] at h
          unfold wpList at h
          obtain ⟨_, v, h1, _⟩ := h
          have h1 := congrArg Act.defers h1
          rw [put_defers, put_defers] at h1
          exact absurd (congrArg List.length h1) (by simp)
        | enter f args =>
          simp only [Oper.upon] at h ⊢
          refine Calls.mono h fun e w'' he => ?_
          cases e with
          | returned u => exact key u w'' he
          | panicked c => exact absurd he.1 (by simp)
          | outgrown =>
            obtain ⟨_, _, h1, _⟩ := he
            cases h1
        | row r args =>
          simp only [Oper.upon] at h ⊢
          exact Rows.mono h fun u w'' he => key u w'' he
        | _ => simp only [Oper.upon] at h
    · cases h
  · rw [if_neg hwd] at h ⊢
    unfold wpList at h
    obtain ⟨_, v, h1, h2⟩ := h
    rw [put_inj hs h1]
    exact hK v w h2

/-- The act behind the first i operations, in the row's order. -/
def acV (ops : Array Oper) (a0 : Act) (vs : Nat → Value) : Nat → Act
  | 0 => a0
  | i + 1 => match ops[i]? with
    | some o => (acV ops a0 vs i).put o.dst (vs i)
    | none => acV ops a0 vs i

theorem acV_flo (hB : floatB ops = true) (vs : Nat → Value) : ∀ i, Flo ops a0 vs (fun j => decide (j < i)) (acV ops a0 vs i)
  | 0 => Flo.start fun j => by simp
  | i + 1 => by
    unfold acV
    have ih := acV_flo hB vs i
    cases hx : ops[i]? with
    | none =>
      have hle : ops.size ≤ i := by
        rcases Nat.lt_or_ge i ops.size with h1 | h1
        · rw [Array.getElem?_eq_getElem h1] at hx; cases hx
        · exact h1
      dsimp only
      refine ⟨ih.defers, ih.size, fun j o t hj hd hlt hs => ih.hit j o t hj hd ?_ hs, fun t ht => ih.miss t fun j o hj hd => ?_⟩
      · have := (Array.getElem?_eq_some_iff.1 hj).1
        simp at this ⊢
        omega
      · have := ht j o hj hd
        simp at this ⊢
        omega
    | some o =>
      dsimp only
      refine ih.put hB hx fun j => ?_
      rw [Bool.eq_iff_iff]
      simp
      omega
def updV (vs : Nat → Value) (i : Nat) (v : Value) : Nat → Value := fun j => if j = i then v else vs j

theorem wpAny_rel {Rs : Nat → (Nat → Value) → World → Prop} {S : World → Prop} {St : Nat → World → World → Prop} (hB : floatB ops = true) (dp : Nat → List Nat) (hdp : ∀ i j, j ∈ dp i → waitsT .any ops ops.size i j = true)
    (kl : Nat → List Nat) (hkl : ∀ i j k, i < ops.size → k < ops.size → j ∈ kl i → j ∈ dp k → k = i ∨ waitsT .any ops ops.size i k = true)
    (hcg : ∀ j vs vs' w, (∀ k, k = j ∨ k ∈ dp j → vs k = vs' k) → Rs j vs w → Rs j vs' w) (hR : ∀ i j vs w w', j ≠ i → j ∉ kl i → Rs j vs w → St i w w' → Rs j vs w')
    (hstep : ∀ i o, ops[i]? = some o → ∀ (vs : Nat → Value) w, S w → (∀ j ∈ dp i, Rs j vs w) → wpList P ops (fun e a' w' => e = .normal ∧ ∃ v, a' = (acV ops a0 vs i).put o.dst v ∧ Rs i (updV vs i v) w' ∧ S w' ∧ St i w w') [o] (acV ops a0 vs i) w)
    (hend : ∀ (vs : Nat → Value) w, S w → (∀ j, j < ops.size → (∀ i, i < ops.size → j ∉ kl i) → Rs j vs w) → Q .normal (acV ops a0 vs ops.size) w) :
    ∀ (fuel : Nat) (listed : Array Bool) (a : Act) (w : World) (vs : Nat → Value), Closed .any ops listed → listed.size = ops.size → lacks ops.size (fun j => listed.getD j false) = fuel → Flo ops a0 vs (fun j => listed.getD j false) a → S w →
      (∀ j, listed.getD j false = true → (∀ i, listed.getD i false = true → j ∉ kl i) → Rs j vs w) → wpAny P .any ops Q fuel listed a w := by
  have hnone : ∀ (listed : Array Bool), listed.size = ops.size → Region.ready .any ops listed = [] → ∀ i, i < ops.size → listed.getD i false = true := by
    intro listed hsz hr i
    induction i using Nat.strongRecOn with
    | _ i ih =>
      intro hi
      cases hl : listed.getD i false with
      | true => rfl
      | false =>
        exfalso
        have ho : ops[i]? = some ops[i] := Array.getElem?_eq_getElem hi
        have hm : i ∈ Region.ready .any ops listed := by
          rw [mem_ready]
          refine ⟨?_, ops[i], ho, fun e he hb => ?_⟩
          · have hi2 : i < listed.size := by omega
            simp only [Array.getD_eq_getD_getElem?, Array.getElem?_eq_getElem hi2, Option.getD_some] at hl ⊢
            exact hl
          · have h1 := floatB_after hB ho e he hb
            exact ih e.on h1 (by omega)
        rw [hr] at hm
        cases hm
  have hfin : ∀ (listed : Array Bool) (a : Act) (w : World) (vs : Nat → Value), listed.size = ops.size → (∀ i, i < ops.size → listed.getD i false = true) → Flo ops a0 vs (fun j => listed.getD j false) a → S w → (∀ j, listed.getD j false = true → (∀ i, listed.getD i false = true → j ∉ kl i) → Rs j vs w) → Q .normal a w := by
    intro listed a w vs hlsz hall hf hS hRs
    have hac := acV_flo (a0 := a0) hB vs ops.size
    have : a = acV ops a0 vs ops.size := by
      have h1 : a.tmps = (acV ops a0 vs ops.size).tmps := by
        refine Array.ext_getElem? fun t => ?_
        refine hf.agree hac fun j o hj _ => ?_
        have hjs := (Array.getElem?_eq_some_iff.1 hj).1
        rw [hall j hjs]
        simp [hjs]
      have h2 : a.defers = (acV ops a0 vs ops.size).defers := by rw [hf.defers, hac.defers]
      cases a
      cases hx : acV ops a0 vs ops.size
      rw [hx] at h1 h2
      simp only at h1 h2
      rw [h1, h2]
    rw [this]
    refine hend vs w hS fun j hj hk => hRs j (hall j hj) fun i hi => hk i ?_
    rcases Nat.lt_or_ge i ops.size with h | h
    · exact h
    · rw [Array.getD_eq_getD_getElem?, Array.getElem?_eq_none (by omega)] at hi; cases hi
  intro fuel
  induction fuel with
  | zero =>
    intro listed a w vs hcl hsz hlk hf hS hRs
    have hall := lacks_all _ _ hlk
    refine ⟨?_, hfin listed a w vs hsz hall hf hS hRs⟩
    rw [List.eq_nil_iff_forall_not_mem]
    intro i hi
    obtain ⟨h1, o, ho, _⟩ := mem_ready.1 hi
    have his := (Array.getElem?_eq_some_iff.1 ho).1
    have h2 := hall i his
    have hi2 : i < listed.size := by omega
    simp only [Array.getD_eq_getD_getElem?, Array.getElem?_eq_getElem hi2, Option.getD_some] at h1 h2
    rw [h1] at h2
    cases h2
  | succ fuel ih =>
    intro listed a w vs hcl hsz hlk hf hS hRs
    refine ⟨fun hr => hfin listed a w vs hsz (hnone listed hsz hr) hf hS hRs, fun i hi => ?_⟩
    obtain ⟨h1, o, ho, hall⟩ := mem_ready.1 hi
    have his := (Array.getElem?_eq_some_iff.1 ho).1
    have hi2 : i < listed.size := by omega
    have hun : listed.getD i false = false := by
      simp only [Array.getD_eq_getD_getElem?, Array.getElem?_eq_getElem hi2, Option.getD_some] at h1 ⊢
      exact h1
    have hset : ∀ j, (listed.setIfInBounds i true).getD j false = (listed.getD j false || decide (j = i)) := fun j => by
      by_cases hji : j = i
      · subst hji
        simp [Array.getD_eq_getD_getElem?, hi2]
      · rw [getD_set_ne false (Ne.symm hji)]
        simp [hji]
    have hsel := fun cs b => Region.noSelect_spec (ops := ops) (by unfold floatB at hB; rw [Bool.and_eq_true] at hB; exact hB.1) i o cs b ho
    have hac := acV_flo (a0 := a0) hB vs i
    refine wpOp_rel (b := acV ops a0 vs i) (R := fun v w' => Rs i (updV vs i v) w' ∧ S w' ∧ St i w w') ho hsel (fun t ht => ?_) (by rw [hf.size, hac.size]) (fun v w' hS' => ?_) (hstep i o ho vs w hS fun j hj => hRs j (hcl.ready (hdp i j hj) hi) fun i' hi' hk => by
      have hi's : i' < ops.size := by
        rcases Nat.lt_or_ge i' ops.size with h | h
        · exact h
        · rw [Array.getD_eq_getD_getElem?, Array.getElem?_eq_none (by omega)] at hi'; cases hi'
      rcases hkl i' j i hi's his hk hj with e | e
      · subst e; rw [hun] at hi'; cases hi'
      · have := hcl.waits _ _ _ e hi'
        rw [hun] at this
        cases this)
    · refine hf.agree hac fun j oj hj hd => ?_
      rcases (floatB_pair hB ho hj hd).2 ht with ⟨h2, h3⟩ | ⟨h2, h3⟩ | h2
      · rw [hcl.ready h3 hi]
        simp [h2]
      · have h4 : decide (j < i) = false := by simp; omega
        rw [h4]
        cases hlj : listed.getD j false with
        | false => rfl
        | true =>
          have := hcl.waits _ _ _ h3 hlj
          rw [hun] at this
          cases this
      · subst h2
        rw [hun]
        simp
    · obtain ⟨hv, hS2, hst⟩ := hS'
      have hf2 : Flo ops a0 (updV vs i v) (fun j => listed.getD j false) a := hf.congr fun j hj => by
        unfold updV
        rw [if_neg]
        rintro rfl
        rw [hun] at hj
        cases hj
      have hput := hf2.put hB ho hset
      have hvi : updV vs i v i = v := by simp [updV]
      rw [hvi] at hput
      refine ih (listed.setIfInBounds i true) _ w' (updV vs i v) (hcl.set_ hi) (by rw [Array.size_setIfInBounds]; exact hsz) ?_ hput hS2 fun j hj hkj => ?_
      · have := lacks_one (f := fun j => listed.getD j false) (g := fun j => (listed.setIfInBounds i true).getD j false) hun hset ops.size his
        omega
      · rw [hset] at hj
        by_cases hji : j = i
        · subst hji; exact hv
        · have hjl : listed.getD j false = true := by simpa [hji] using hj
          refine hcg j vs _ _ (fun k hk => ?_) (hR i j _ _ _ hji (hkj i (by rw [hset]; simp)) (hRs j hjl fun i' hi' => hkj i' (by rw [hset, hi']; rfl)) hst)
          unfold updV
          rw [if_neg]
          rintro rfl
          rcases hk with e | hk
          · exact hji e.symm
          · have := hcl.waits _ _ _ (hdp j k hk) hjl
            rw [hun] at this
            cases this

/-- How the walk of one operation ends. -/
def RelEnd (R : Value → World → Prop) (a : Act) (d : Option Tmp) : Exit → Act → World → Prop := fun e a' w' => e = .normal ∧ ∃ v, a' = a.put d v ∧ R v w'
/-- A REGION THAT DRAWS ITS ORDER, BY WORDS: Rs i tells what operation i yields, in any later world; dp i are those whose words it wants. -/
theorem wp_region_rel {id : Nat} {w : World} {l : List Oper} (Rs : Nat → (Nat → Value) → World → Prop) (S : World → Prop) (St : Nat → World → World → Prop) (dp : Nat → List Nat) (hm : P.follows .mixedOrders = true) (hB : floatB l.toArray = true)
    (hdp : ((List.range l.length).all fun i => (dp i).all fun j => waitsT .any l.toArray l.length i j) = true) (hdp0 : ∀ i, l.length ≤ i → dp i = [])
    (kl : Nat → List Nat) (hkl : ((List.range l.length).all fun i => (kl i).all fun j => (List.range l.length).all fun k => !(dp k).contains j || k == i || waitsT .any l.toArray l.length i k) = true)
    (hcg : ∀ j vs vs' w, (∀ k, k = j ∨ k ∈ dp j → vs k = vs' k) → Rs j vs w → Rs j vs' w) (hR : ∀ i j vs w w', j ≠ i → j ∉ kl i → Rs j vs w → St i w w' → Rs j vs w') (hS : S w.drew)
    (hstep : ∀ i o, l[i]? = some o → ∀ (vs : Nat → Value) w, S w → (∀ j ∈ dp i, Rs j vs w) → wpList P l.toArray (RelEnd (fun v w' => Rs i (updV vs i v) w' ∧ S w' ∧ St i w w') (acV l.toArray a vs i) o.dst) [o] (acV l.toArray a vs i) w)
    (hend : ∀ (vs : Nat → Value) w, S w → (∀ j, j < l.length → (∀ i, i < l.length → j ∉ kl i) → Rs j vs w) → Q .normal (acV l.toArray a vs l.length) w) : (Code.region id l.toArray true).wp P Q a w := by
  have hsz : l.toArray.size = l.length := by simp
  have hget : ∀ i : Nat, l.toArray[i]? = l[i]? := fun i => List.getElem?_toArray ..
  refine wp_region_any hm ?_
  refine wpAny_rel (Rs := Rs) (S := S) (St := St) hB dp (fun i j hj => ?_) kl (fun i j k hi hk hj hd => ?_) hcg hR (fun i o ho => hstep i o (by rw [← hget]; exact ho)) (fun vs w h1 h2 => by rw [hsz]; exact hend vs w h1 (by rw [← hsz]; exact h2)) _ _ a _ (fun _ => undef) (Closed.start _ _ _) (by simp) ?_ (Flo.start fun j => getD_replicate_false _ _) hS (fun j hj _ => by rw [getD_replicate_false] at hj; cases hj)
  · rw [hsz]
    rcases Nat.lt_or_ge i l.length with h | h
    · exact List.all_eq_true.1 (List.all_eq_true.1 hdp i (List.mem_range.2 h)) j hj
    · rw [hdp0 i h] at hj; cases hj
  · rw [hsz] at hi hk ⊢
    have h1 := List.all_eq_true.1 (List.all_eq_true.1 (List.all_eq_true.1 hkl i (List.mem_range.2 hi)) j hj) k (List.mem_range.2 hk)
    rw [Bool.or_eq_true, Bool.or_eq_true, Bool.not_eq_true', beq_iff_eq] at h1
    rcases h1 with (h1 | h1) | h1
    · rw [List.contains_iff_mem.2 hd] at h1; cases h1
    · exact .inl h1
    · exact .inr h1
  · have : (fun j => (Array.replicate l.toArray.size false).getD j false) = fun _ => false := funext fun j => getD_replicate_false _ _
    rw [this, lacks_none]
end
end Go.Inq

namespace Go.Inq
open Go
section
variable {P : Program} {ops : Array Oper} {Q : Exit → Act → World → Prop} {a b a0 : Act}

theorem wpAny_inv {Inv : (Nat → Bool) → (Nat → Value) → World → Prop} (hB : floatB ops = true)
    (hstep : ∀ i o, ops[i]? = some o → ∀ (L : Nat → Bool) (vs : Nat → Value) w, L i = false → (∀ j, waitsT .any ops ops.size i j = true → L j = true) → (∀ k, waitsT .any ops ops.size k i = true → L k = false) → Inv L vs w → wpList P ops (fun e a' w' => e = .normal ∧ ∃ v, a' = (acV ops a0 vs i).put o.dst v ∧ Inv (fun j => L j || decide (j = i)) (updV vs i v) w') [o] (acV ops a0 vs i) w)
    (hend : ∀ (L : Nat → Bool) (vs : Nat → Value) w, (∀ j, j < ops.size → L j = true) → Inv L vs w → Q .normal (acV ops a0 vs ops.size) w) :
    ∀ (fuel : Nat) (listed : Array Bool) (a : Act) (w : World) (vs : Nat → Value), Closed .any ops listed → listed.size = ops.size → lacks ops.size (fun j => listed.getD j false) = fuel → Flo ops a0 vs (fun j => listed.getD j false) a →
      Inv (fun j => listed.getD j false) vs w → wpAny P .any ops Q fuel listed a w := by
  have hnone : ∀ (listed : Array Bool), listed.size = ops.size → Region.ready .any ops listed = [] → ∀ i, i < ops.size → listed.getD i false = true := by
    intro listed hsz hr i
    induction i using Nat.strongRecOn with
    | _ i ih =>
      intro hi
      cases hl : listed.getD i false with
      | true => rfl
      | false =>
        exfalso
        have ho : ops[i]? = some ops[i] := Array.getElem?_eq_getElem hi
        have hm : i ∈ Region.ready .any ops listed := by
          rw [mem_ready]
          refine ⟨?_, ops[i], ho, fun e he hb => ?_⟩
          · have hi2 : i < listed.size := by omega
            simp only [Array.getD_eq_getD_getElem?, Array.getElem?_eq_getElem hi2, Option.getD_some] at hl ⊢
            exact hl
          · have h1 := floatB_after hB ho e he hb
            exact ih e.on h1 (by omega)
        rw [hr] at hm
        cases hm
  have hfin : ∀ (listed : Array Bool) (a : Act) (w : World) (vs : Nat → Value), listed.size = ops.size → (∀ i, i < ops.size → listed.getD i false = true) → Flo ops a0 vs (fun j => listed.getD j false) a → Inv (fun j => listed.getD j false) vs w → Q .normal a w := by
    intro listed a w vs hlsz hall hf hI
    have hac := acV_flo (a0 := a0) hB vs ops.size
    have : a = acV ops a0 vs ops.size := by
      have h1 : a.tmps = (acV ops a0 vs ops.size).tmps := by
        refine Array.ext_getElem? fun t => ?_
        refine hf.agree hac fun j o hj _ => ?_
        have hjs := (Array.getElem?_eq_some_iff.1 hj).1
        rw [hall j hjs]
        simp [hjs]
      have h2 : a.defers = (acV ops a0 vs ops.size).defers := by rw [hf.defers, hac.defers]
      cases a
      cases hx : acV ops a0 vs ops.size
      rw [hx] at h1 h2
      simp only at h1 h2
      rw [h1, h2]
    rw [this]
    exact hend _ vs w hall hI
  intro fuel
  induction fuel with
  | zero =>
    intro listed a w vs hcl hsz hlk hf hI
    have hall := lacks_all _ _ hlk
    refine ⟨?_, hfin listed a w vs hsz hall hf hI⟩
    rw [List.eq_nil_iff_forall_not_mem]
    intro i hi
    obtain ⟨h1, o, ho, _⟩ := mem_ready.1 hi
    have his := (Array.getElem?_eq_some_iff.1 ho).1
    have h2 := hall i his
    have hi2 : i < listed.size := by omega
    simp only [Array.getD_eq_getD_getElem?, Array.getElem?_eq_getElem hi2, Option.getD_some] at h1 h2
    rw [h1] at h2
    cases h2
  | succ fuel ih =>
    intro listed a w vs hcl hsz hlk hf hI
    refine ⟨fun hr => hfin listed a w vs hsz (hnone listed hsz hr) hf hI, fun i hi => ?_⟩
    obtain ⟨h1, o, ho, hall⟩ := mem_ready.1 hi
    have his := (Array.getElem?_eq_some_iff.1 ho).1
    have hi2 : i < listed.size := by omega
    have hun : listed.getD i false = false := by
      simp only [Array.getD_eq_getD_getElem?, Array.getElem?_eq_getElem hi2, Option.getD_some] at h1 ⊢
      exact h1
    have hset : ∀ j, (listed.setIfInBounds i true).getD j false = (listed.getD j false || decide (j = i)) := fun j => by
      by_cases hji : j = i
      · subst hji
        simp [Array.getD_eq_getD_getElem?, hi2]
      · rw [getD_set_ne false (Ne.symm hji)]
        simp [hji]
    have hsel := fun cs b => Region.noSelect_spec (ops := ops) (by unfold floatB at hB; rw [Bool.and_eq_true] at hB; exact hB.1) i o cs b ho
    have hac := acV_flo (a0 := a0) hB vs i
    refine wpOp_rel (b := acV ops a0 vs i) (R := fun v w' => Inv (fun j => listed.getD j false || decide (j = i)) (updV vs i v) w') ho hsel (fun t ht => ?_) (by rw [hf.size, hac.size]) (fun v w' hS' => ?_) (hstep i o ho (fun j => listed.getD j false) vs w hun (fun j hj => hcl.ready hj hi) (fun k hk => by
      cases hlk : listed.getD k false with
      | false => rfl
      | true =>
        have := hcl.waits _ _ _ hk hlk
        rw [hun] at this
        cases this) hI)
    · refine hf.agree hac fun j oj hj hd => ?_
      rcases (floatB_pair hB ho hj hd).2 ht with ⟨h2, h3⟩ | ⟨h2, h3⟩ | h2
      · rw [hcl.ready h3 hi]
        simp [h2]
      · have h4 : decide (j < i) = false := by simp; omega
        rw [h4]
        cases hlj : listed.getD j false with
        | false => rfl
        | true =>
          have := hcl.waits _ _ _ h3 hlj
          rw [hun] at this
          cases this
      · subst h2
        rw [hun]
        simp
    · have hf2 : Flo ops a0 (updV vs i v) (fun j => listed.getD j false) a := hf.congr fun j hj => by
        unfold updV
        rw [if_neg]
        rintro rfl
        rw [hun] at hj
        cases hj
      have hput := hf2.put hB ho hset
      have hvi : updV vs i v i = v := by simp [updV]
      rw [hvi] at hput
      refine ih (listed.setIfInBounds i true) _ w' (updV vs i v) (hcl.set_ hi) (by rw [Array.size_setIfInBounds]; exact hsz) ?_ hput ?_
      · have := lacks_one (f := fun j => listed.getD j false) (g := fun j => (listed.setIfInBounds i true).getD j false) hun hset ops.size his
        omega
      · have : (fun j => (listed.setIfInBounds i true).getD j false) = fun j => listed.getD j false || decide (j = i) := funext hset
        rw [this]
        exact hS'

/-- A REGION THAT DRAWS ITS ORDER, BY AN INVARIANT OVER WHAT IS DONE: dp i are done ahead of i, nd i are not. -/
theorem wp_region_inv {id : Nat} {w : World} {l : List Oper} (Inv : (Nat → Bool) → (Nat → Value) → World → Prop) (dp nd : Nat → List Nat) (hm : P.follows .mixedOrders = true) (hB : floatB l.toArray = true)
    (hdp : ((List.range l.length).all fun i => (dp i).all fun j => waitsT .any l.toArray l.length i j) = true) (hnd : ((List.range l.length).all fun i => (nd i).all fun k => waitsT .any l.toArray l.length k i) = true)
    (h0 : Inv (fun _ => false) (fun _ => undef) w.drew)
    (hstep : ∀ i o, l[i]? = some o → ∀ (L : Nat → Bool) (vs : Nat → Value) w, L i = false → (∀ j ∈ dp i, L j = true) → (∀ k ∈ nd i, L k = false) → Inv L vs w → wpList P l.toArray (RelEnd (fun v w' => Inv (fun j => L j || decide (j = i)) (updV vs i v) w') (acV l.toArray a vs i) o.dst) [o] (acV l.toArray a vs i) w)
    (hend : ∀ (L : Nat → Bool) (vs : Nat → Value) w, (∀ j, j < l.length → L j = true) → Inv L vs w → Q .normal (acV l.toArray a vs l.length) w) : (Code.region id l.toArray true).wp P Q a w := by
  have hsz : l.toArray.size = l.length := by simp
  have hget : ∀ i : Nat, l.toArray[i]? = l[i]? := fun i => List.getElem?_toArray ..
  refine wp_region_any hm ?_
  refine wpAny_inv (Inv := Inv) hB (fun i o ho L vs w h1 h2 h3 hI => ?_) (fun L vs w h1 h2 => by rw [hsz]; exact hend L vs w (by rw [← hsz]; exact h1) h2) _ _ a _ (fun _ => undef) (Closed.start _ _ _) (by simp) ?_ (Flo.start fun j => getD_replicate_false _ _) ?_
  · have ho' : l[i]? = some o := by rw [← hget]; exact ho
    have hil : i < l.length := (List.getElem?_eq_some_iff.1 ho').1
    refine hstep i o ho' L vs w h1 (fun j hj => h2 j ?_) (fun k hk => h3 k ?_) hI
    · rw [hsz]
      exact List.all_eq_true.1 (List.all_eq_true.1 hdp i (List.mem_range.2 hil)) j hj
    · rw [hsz]
      exact List.all_eq_true.1 (List.all_eq_true.1 hnd i (List.mem_range.2 hil)) k hk
  · have : (fun j => (Array.replicate l.toArray.size false).getD j false) = fun _ => false := funext fun j => getD_replicate_false _ _
    rw [this, lacks_none]
  · have : (fun j => (Array.replicate l.toArray.size false).getD j false) = fun _ => false := funext fun j => getD_replicate_false _ _
    rw [this]
    exact h0
end
end Go.Inq
