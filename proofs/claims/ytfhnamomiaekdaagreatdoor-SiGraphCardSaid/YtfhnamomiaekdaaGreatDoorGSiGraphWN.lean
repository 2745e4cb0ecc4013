/-
  A region that draws its order, where what an operation yields is told by a word that later worlds keep: each operation is walked once, with the words of those that it waits for.
-/
import Derived.Test.YtfhnamomiaekdaaGreatDoorGSiGraphWC
import Derived.Test.YtfhnamomiaekdaaGreatDoorGSiGraphWL
set_option linter.unusedVariables false
set_option linter.unusedSimpArgs false
namespace Go.Inq
open Go
section
variable {P : Program} {ops : Array Oper} {Q : Exit → Act → World → Prop} {a b a0 : Act}

theorem Flo.congr {vs vs' : Nat → Value} {L : Nat → Bool} (h : Flo ops a0 vs L a) (hv : ∀ j, L j = true → vs j = vs' j) : Flo ops a0 vs' L a :=
  ⟨h.defers, h.size, fun j o t hj hd hl hs => by rw [← hv j hl]; exact h.hit j o t hj hd hl hs, h.miss⟩

theorem wpOp_rel {i : Nat} {o : Oper} {w : World} {R : Value → World → Prop} {K : Act → World → Prop} (ho : ops[i]? = some o) (hsel : ∀ cs b, o.op ≠ .select cs b)
    (hr : ∀ t ∈ readsT ops o, a.tmps[t]? = b.tmps[t]?) (hs : a.tmps.size = b.tmps.size) (hK : ∀ v w', R v w' → K (a.put o.dst v) w')
    (h : wpList P ops (fun e a' w' => e = .normal ∧ ∃ v, a' = b.put o.dst v ∧ R v w') [o] b w) : wpOp P ops Q i K a w := by
  have hw : Region.wanted o (yielded ops a.tmps) = Region.wanted o (yielded ops b.tmps) := by
    unfold Region.wanted
    cases hg : o.guard with
    | none => rfl
    | some g =>
      obtain ⟨j, x⟩ := g
      dsimp only
      have : yielded ops a.tmps j = yielded ops b.tmps j := by
        unfold yielded
        cases hd : (ops[j]?).bind (·.dst) with
        | none => rfl
        | some t =>
          have hm : t ∈ readsT ops o := by
            unfold readsT
            rw [hg]
            refine List.mem_append.2 (.inr ?_)
            show t ∈ ((ops[j]?).bind (·.dst)).toList
            rw [hd]
            simp
          simp only [Option.bind_some]
          rw [hr t hm]
      rw [this]
  have he : execOp a.eval o = execOp b.eval o := by
    refine execOp_congr o hsel fun x hx => ?_
    cases x with
    | tmp t =>
      have hm : t ∈ readsT ops o := by
        unfold readsT
        refine List.mem_append.2 (.inl ?_)
        rw [List.mem_filterMap]
        exact ⟨.tmp t, by simpa using hx, rfl⟩
      have := hr t hm
      simp only [Act.eval, Array.getD_eq_getD_getElem?, this]
    | _ => rfl
  unfold wpOp
  rw [ho]
  dsimp only
  unfold wpList at h
  rw [hw]
  by_cases hwd : Region.wanted o (yielded ops b.tmps) = true
  · rw [if_pos hwd] at h ⊢
    left
    rcases h with h | ⟨_, _, _, h, _⟩
    · unfold Oper.wp at *
      rw [he]
      generalize (execOp b.eval o).run P w = r at h
      have key : ∀ u w', wpList P ops (fun e a' w' => e = .normal ∧ ∃ v, a' = b.put o.dst v ∧ R v w') [] (b.put o.dst u) w' → K (a.put o.dst u) w' := fun u w' h => by
        unfold wpList at h
        obtain ⟨_, v, h1, h2⟩ := h
        rw [put_inj hs h1]
        exact hK v w' h2
      cases r with
      | halt x w' =>
        cases x <;> simp only [Oper.upon] at h ⊢
        exact absurd h.1 (by simp)
      | ok n w' =>
        cases n with
        | value u => exact key u w' h
        | skip => exact key undef w' h
        | defer d =>
          simp only [Oper.upon] at h
          unfold wpList at h
          obtain ⟨_, v, h1, _⟩ := h
          have h1 := congrArg Act.defers h1
          rw [put_defers, put_defers] at h1
          exact absurd (congrArg List.length h1) (by simp)
        | enter f args =>
          simp only [Oper.upon] at h ⊢
          refine Calls.mono h fun e w'' he => ?_
          cases e with
          | returned u => exact key u w'' he
          | panicked c => exact absurd he.1 (by simp)
          | outgrown =>
            obtain ⟨_, _, h1, _⟩ := he
            cases h1
        | row r args =>
          simp only [Oper.upon] at h ⊢
          exact Rows.mono h fun u w'' he => key u w'' he
        | _ => simp only [Oper.upon] at h
    · cases h
  · rw [if_neg hwd] at h ⊢
    unfold wpList at h
    obtain ⟨_, v, h1, h2⟩ := h
    rw [put_inj hs h1]
    exact hK v w h2

/-- The act behind the first i operations, in the row's order. -/
def acV (ops : Array Oper) (a0 : Act) (vs : Nat → Value) : Nat → Act
  | 0 => a0
  | i + 1 => match ops[i]? with
    | some o => (acV ops a0 vs i).put o.dst (vs i)
    | none => acV ops a0 vs i

theorem acV_flo (hB : floatB ops = true) (vs : Nat → Value) : ∀ i, Flo ops a0 vs (fun j => decide (j < i)) (acV ops a0 vs i)
  | 0 => Flo.start fun j => by simp
  | i + 1 => by
    unfold acV
    have ih := acV_flo hB vs i
    cases hx : ops[i]? with
    | none =>
      have hle : ops.size ≤ i := by
        rcases Nat.lt_or_ge i ops.size with h1 | h1
        · rw [Array.getElem?_eq_getElem h1] at hx; cases hx
        · exact h1
      dsimp only
      refine ⟨ih.defers, ih.size, fun j o t hj hd hlt hs => ih.hit j o t hj hd ?_ hs, fun t ht => ih.miss t fun j o hj hd => ?_⟩
      · have := (Array.getElem?_eq_some_iff.1 hj).1
        simp at this ⊢
        omega
      · have := ht j o hj hd
        simp at this ⊢
        omega
    | some o =>
      dsimp only
      refine ih.put hB hx fun j => ?_
      rw [Bool.eq_iff_iff]
      simp
      omega
def updV (vs : Nat → Value) (i : Nat) (v : Value) : Nat → Value := fun j => if j = i then v else vs j

theorem wpAny_rel {Rs : Nat → (Nat → Value) → World → Prop} {S : World → Prop} {St : Nat → World → World → Prop} (hB : floatB ops = true) (dp : Nat → List Nat) (hdp : ∀ i j, j ∈ dp i → waitsT .any ops ops.size i j = true)
    (kl : Nat → List Nat) (hkl : ∀ i j k, i < ops.size → k < ops.size → j ∈ kl i → j ∈ dp k → k = i ∨ waitsT .any ops ops.size i k = true)
    (hcg : ∀ j vs vs' w, (∀ k, k = j ∨ k ∈ dp j → vs k = vs' k) → Rs j vs w → Rs j vs' w) (hR : ∀ i j vs w w', j ≠ i → j ∉ kl i → Rs j vs w → St i w w' → Rs j vs w')
    (hstep : ∀ i o, ops[i]? = some o → ∀ (vs : Nat → Value) w, S w → (∀ j ∈ dp i, Rs j vs w) → wpList P ops (fun e a' w' => e = .normal ∧ ∃ v, a' = (acV ops a0 vs i).put o.dst v ∧ Rs i (updV vs i v) w' ∧ S w' ∧ St i w w') [o] (acV ops a0 vs i) w)
    (hend : ∀ (vs : Nat → Value) w, S w → (∀ j, j < ops.size → (∀ i, i < ops.size → j ∉ kl i) → Rs j vs w) → Q .normal (acV ops a0 vs ops.size) w) :
    ∀ (fuel : Nat) (listed : Array Bool) (a : Act) (w : World) (vs : Nat → Value), Closed .any ops listed → listed.size = ops.size → lacks ops.size (fun j => listed.getD j false) = fuel → Flo ops a0 vs (fun j => listed.getD j false) a → S w →
      (∀ j, listed.getD j false = true → (∀ i, listed.getD i false = true → j ∉ kl i) → Rs j vs w) → wpAny P .any ops Q fuel listed a w := by
  have hnone : ∀ (listed : Array Bool), listed.size = ops.size → Region.ready .any ops listed = [] → ∀ i, i < ops.size → listed.getD i false = true := by
    intro listed hsz hr i
    induction i using Nat.strongRecOn with
    | _ i ih =>
      intro hi
      cases hl : listed.getD i false with
      | true => rfl
      | false =>
        exfalso
        have ho : ops[i]? = some ops[i] := Array.getElem?_eq_getElem hi
        have hm : i ∈ Region.ready .any ops listed := by
          rw [mem_ready]
          refine ⟨?_, ops[i], ho, fun e he hb => ?_⟩
          · have hi2 : i < listed.size := by omega
            simp only [Array.getD_eq_getD_getElem?, Array.getElem?_eq_getElem hi2, Option.getD_some] at hl ⊢
            exact hl
          · have h1 := floatB_after hB ho e he hb
            exact ih e.on h1 (by omega)
        rw [hr] at hm
        cases hm
  have hfin : ∀ (listed : Array Bool) (a : Act) (w : World) (vs : Nat → Value), listed.size = ops.size → (∀ i, i < ops.size → listed.getD i false = true) → Flo ops a0 vs (fun j => listed.getD j false) a → S w → (∀ j, listed.getD j false = true → (∀ i, listed.getD i false = true → j ∉ kl i) → Rs j vs w) → Q .normal a w := by
    intro listed a w vs hlsz hall hf hS hRs
    have hac := acV_flo (a0 := a0) hB vs ops.size
    have : a = acV ops a0 vs ops.size := by
      have h1 : a.tmps = (acV ops a0 vs ops.size).tmps := by
        refine Array.ext_getElem? fun t => ?_
        refine hf.agree hac fun j o hj _ => ?_
        have hjs := (Array.getElem?_eq_some_iff.1 hj).1
        rw [hall j hjs]
        simp [hjs]
      have h2 : a.defers = (acV ops a0 vs ops.size).defers := by rw [hf.defers, hac.defers]
      cases a
      cases hx : acV ops a0 vs ops.size
      rw [hx] at h1 h2
      simp only at h1 h2
      rw [h1, h2]
    rw [this]
    refine hend vs w hS fun j hj hk => hRs j (hall j hj) fun i hi => hk i ?_
    rcases Nat.lt_or_ge i ops.size with h | h
    · exact h
    · rw [Array.getD_eq_getD_getElem?, Array.getElem?_eq_none (by omega)] at hi; cases hi
  intro fuel
  induction fuel with
  | zero =>
    intro listed a w vs hcl hsz hlk hf hS hRs
    have hall := lacks_all _ _ hlk
    refine ⟨?_, hfin listed a w vs hsz hall hf hS hRs⟩
    rw [List.eq_nil_iff_forall_not_mem]
    intro i hi
    obtain ⟨h1, o, ho, _⟩ := mem_ready.1 hi
    have his := (Array.getElem?_eq_some_iff.1 ho).1
    have h2 := hall i his
    have hi2 : i < listed.size := by omega
    simp only [Array.getD_eq_getD_getElem?, Array.getElem?_eq_getElem hi2, Option.getD_some] at h1 h2
    rw [h1] at h2
    cases h2
  | succ fuel ih =>
    intro listed a w vs hcl hsz hlk hf hS hRs
    refine ⟨fun hr => hfin listed a w vs hsz (hnone listed hsz hr) hf hS hRs, fun i hi => ?_⟩
    obtain ⟨h1, o, ho, hall⟩ := mem_ready.1 hi
    have his := (Array.getElem?_eq_some_iff.1 ho).1
    have hi2 : i < listed.size := by omega
    have hun : listed.getD i false = false := by
      simp only [Array.getD_eq_getD_getElem?, Array.getElem?_eq_getElem hi2, Option.getD_some] at h1 ⊢
      exact h1
    have hset : ∀ j, (listed.setIfInBounds i true).getD j false = (listed.getD j false || decide (j = i)) := fun j => by
      by_cases hji : j = i
      · subst hji
        simp [Array.getD_eq_getD_getElem?, hi2]
      · rw [getD_set_ne false (Ne.symm hji)]
        simp [hji]
    have hsel := fun cs b => Region.noSelect_spec (ops := ops) (by unfold floatB at hB; rw [Bool.and_eq_true] at hB; exact hB.1) i o cs b ho
    have hac := acV_flo (a0 := a0) hB vs i
    refine wpOp_rel (b := acV ops a0 vs i) (R := fun v w' => Rs i (updV vs i v) w' ∧ S w' ∧ St i w w') ho hsel (fun t ht => ?_) (by rw [hf.size, hac.size]) (fun v w' hS' => ?_) (hstep i o ho vs w hS fun j hj => hRs j (hcl.ready (hdp i j hj) hi) fun i' hi' hk => by
      have hi's : i' < ops.size := by
        rcases Nat.lt_or_ge i' ops.size with h | h
        · exact h
        · rw [Array.getD_eq_getD_getElem?, Array.getElem?_eq_none (by omega)] at hi'; cases hi'
      rcases hkl i' j i hi's his hk hj with e | e
      · subst e; rw [hun] at hi'; cases hi'
      · have := hcl.waits _ _ _ e hi'
        rw [hun] at this
        cases this)
    · refine hf.agree hac fun j oj hj hd => ?_
      rcases (floatB_pair hB ho hj hd).2 ht with ⟨h2, h3⟩ | ⟨h2, h3⟩ | h2
      · rw [hcl.ready h3 hi]
        simp [h2]
      · have h4 : decide (j < i) = false := by simp; omega
        rw [h4]
        cases hlj : listed.getD j false with
        | false => rfl
        | true =>
          have := hcl.waits _ _ _ h3 hlj
          rw [hun] at this
          cases this
      · subst h2
        rw [hun]
        simp
    · obtain ⟨hv, hS2, hst⟩ := hS'
      have hf2 : Flo ops a0 (updV vs i v) (fun j => listed.getD j false) a := hf.congr fun j hj => by
        unfold updV
        rw [if_neg]
        rintro rfl
        rw [hun] at hj
        cases hj
      have hput := hf2.put hB ho hset
      have hvi : updV vs i v i = v := by simp [updV]
      rw [hvi] at hput
      refine ih (listed.setIfInBounds i true) _ w' (updV vs i v) (hcl.set_ hi) (by rw [Array.size_setIfInBounds]; exact hsz) ?_ hput hS2 fun j hj hkj => ?_
      · have := lacks_one (f := fun j => listed.getD j false) (g := fun j => (listed.setIfInBounds i true).getD j false) hun hset ops.size his
        omega
      · rw [hset] at hj
        by_cases hji : j = i
        · subst hji; exact hv
        · have hjl : listed.getD j false = true := by simpa [hji] using hj
          refine hcg j vs _ _ (fun k hk => ?_) (hR i j _ _ _ hji (hkj i (by rw [hset]; simp)) (hRs j hjl fun i' hi' => hkj i' (by rw [hset, hi']; rfl)) hst)
          unfold updV
          rw [if_neg]
          rintro rfl
          rcases hk with e | hk
          · exact hji e.symm
          · have := hcl.waits _ _ _ (hdp j k hk) hjl
            rw [hun] at this
            cases this

/-- How the walk of one operation ends. -/
def RelEnd (R : Value → World → Prop) (a : Act) (d : Option Tmp) : Exit → Act → World → Prop := fun e a' w' => e = .normal ∧ ∃ v, a' = a.put d v ∧ R v w'
/-- A REGION THAT DRAWS ITS ORDER, BY WORDS: Rs i tells what operation i yields, in any later world; dp i are those whose words it wants. -/
theorem wp_region_rel {id : Nat} {w : World} {l : List Oper} (Rs : Nat → (Nat → Value) → World → Prop) (S : World → Prop) (St : Nat → World → World → Prop) (dp : Nat → List Nat) (hm : P.follows .mixedOrders = true) (hB : floatB l.toArray = true)
    (hdp : ((List.range l.length).all fun i => (dp i).all fun j => waitsT .any l.toArray l.length i j) = true) (hdp0 : ∀ i, l.length ≤ i → dp i = [])
    (kl : Nat → List Nat) (hkl : ((List.range l.length).all fun i => (kl i).all fun j => (List.range l.length).all fun k => !(dp k).contains j || k == i || waitsT .any l.toArray l.length i k) = true)
    (hcg : ∀ j vs vs' w, (∀ k, k = j ∨ k ∈ dp j → vs k = vs' k) → Rs j vs w → Rs j vs' w) (hR : ∀ i j vs w w', j ≠ i → j ∉ kl i → Rs j vs w → St i w w' → Rs j vs w') (hS : S w.drew)
    (hstep : ∀ i o, l[i]? = some o → ∀ (vs : Nat → Value) w, S w → (∀ j ∈ dp i, Rs j vs w) → wpList P l.toArray (RelEnd (fun v w' => Rs i (updV vs i v) w' ∧ S w' ∧ St i w w') (acV l.toArray a vs i) o.dst) [o] (acV l.toArray a vs i) w)
    (hend : ∀ (vs : Nat → Value) w, S w → (∀ j, j < l.length → (∀ i, i < l.length → j ∉ kl i) → Rs j vs w) → Q .normal (acV l.toArray a vs l.length) w) : (Code.region id l.toArray true).wp P Q a w := by
  have hsz : l.toArray.size = l.length := by simp
  have hget : ∀ i : Nat, l.toArray[i]? = l[i]? := fun i => List.getElem?_toArray ..
  refine wp_region_any hm ?_
  refine wpAny_rel (Rs := Rs) (S := S) (St := St) hB dp (fun i j hj => ?_) kl (fun i j k hi hk hj hd => ?_) hcg hR (fun i o ho => hstep i o (by rw [← hget]; exact ho)) (fun vs w h1 h2 => by rw [hsz]; exact hend vs w h1 (by rw [← hsz]; exact h2)) _ _ a _ (fun _ => undef) (Closed.start _ _ _) (by simp) ?_ (Flo.start fun j => getD_replicate_false _ _) hS (fun j hj _ => by rw [getD_replicate_false] at hj; cases hj)
  · rw [hsz]
    rcases Nat.lt_or_ge i l.length with h | h
    · exact List.all_eq_true.1 (List.all_eq_true.1 hdp i (List.mem_range.2 h)) j hj
    · rw [hdp0 i h] at hj; cases hj
  · rw [hsz] at hi hk ⊢
    have h1 := List.all_eq_true.1 (List.all_eq_true.1 (List.all_eq_true.1 hkl i (List.mem_range.2 hi)) j hj) k (List.mem_range.2 hk)
    rw [Bool.or_eq_true, Bool.or_eq_true, Bool.not_eq_true', beq_iff_eq] at h1
    rcases h1 with (h1 | h1) | h1
    · rw [List.contains_iff_mem.2 hd] at h1; cases h1
    · exact .inl h1
    · exact .inr h1
  · have : (fun j => (Array.replicate l.toArray.size false).getD j false) = fun _ => false := funext fun j => getD_replicate_false _ _
    rw [this, lacks_none]
end
end Go.Inq

namespace Go.Proofs.YtfhnamomiaekdaaGreatDoor
open Go.RowKit Go.Inq
set_option maxHeartbeats 4000000
attribute [local go_sem ↓] Go.wp_at_zero Go.wp_at_succ

/-- A graph whose rows are a block of the call's own. -/
def GV (base n : Nat) (E : Edges) (v : Value) (W : World) : Prop := ∃ g, base ≤ g ∧ v = .agg #[.int .i64 n, .slice (some ⟨g, 0, none⟩) n n] ∧ Blk W g 172 (rowsB n E)
theorem GV.below {base n : Nat} {E : Edges} {v : Value} {W W' : World} (h : GV base n E v W) (hb : Below W.heap.size W W') : GV base n E v W' := by
  obtain ⟨g, h1, h2, h3⟩ := h
  exact ⟨g, h1, h2, h3.below hb h3.lt⟩
/-- A variable that is made and set: all else stays. -/
def VarSt (b : Nat) (W W' : World) : Prop :=
  (W'.os = W.os ∧ W'.tape = W.tape ∧ W'.output = W.output ∧ W.heap.size ≤ W'.heap.size) ∧ ∀ k, k < W.heap.size → W'.heap[k]? = W.heap[k]? ∨ (b ≤ k ∧ ∃ cs cs', W.heap[k]? = some (.cells cs 77 (0, 0)) ∧ W'.heap[k]? = some (.cells cs' 77 (0, 0)) ∧ cs'.size = 2)
theorem VarSt.of_below {b : Nat} {W W' : World} (h : Below W.heap.size W W') : VarSt b W W' := ⟨⟨h.os, h.tape, h.output, h.size⟩, fun k hk => .inl (h.block k hk)⟩
theorem VarSt.blk {b g : Nat} {t : TypeId} {cs : Array Value} {W W' : World} (h : VarSt b W W') (hk : Blk W g t cs) (ht : t ≠ 77) : Blk W' g t cs := by
  rcases h.2 g hk.lt with e | ⟨_, cs1, _, e, _⟩
  · exact e.trans hk
  · rw [show W.heap[g]? = _ from hk] at e
    injection e with e
    injection e with _ e
    exact absurd e ht
theorem VarSt.below {b : Nat} {W W' : World} (h : VarSt b W W') : Below b W W' ∨ W.heap.size < b := by
  rcases Nat.lt_or_ge W.heap.size b with g | g
  · exact .inr g
  · exact .inl ⟨h.1.1, h.1.2.1, h.1.2.2.1, h.1.2.2.2, fun k hk => by
      rcases h.2 k (by omega) with e | ⟨e, _⟩
      · exact e
      · omega⟩
theorem GV.var {base n b : Nat} {E : Edges} {v : Value} {W W' : World} (h : GV base n E v W) (hb : VarSt b W W') : GV base n E v W' := by
  obtain ⟨g, h1, h2, h3⟩ := h
  exact ⟨g, h1, h2, hb.blk h3 (by decide)⟩
def VarV (b : Nat) (v : Value) (W : World) : Prop := ∃ g, b ≤ g ∧ v = .pointer (some ⟨g, 0, none⟩) ∧ ∃ x y, Blk W g 77 #[x, y]
def PastW (H : List Txn) (A : Option Addr) (c base : Nat) : Nat → (Nat → Value) → World → Prop
  | 0, vs, _ => vs 0 = .agg #[.slice A H.length c]
  | 1, vs, W => GV base H.length (soE H) (vs 1) W
  | 2, vs, _ => vs 2 = .agg #[.slice A H.length c]
  | 3, vs, W => GV base H.length (wrE H) (vs 3) W
  | 4, vs, W => ∃ u, vs 4 = .tuple #[u, .int .i64 0] ∧ GV base H.length (pastE H) u W
  | 5, vs, W => ∃ u, vs 5 = .tuple #[u, .int .i64 0] ∧ GV base H.length (pastE H) u W
  | 6, vs, W => GV base H.length (pastE H) (vs 6) W
  | 7, vs, _ => vs 7 = .int .i64 0
  | 8, vs, W => VarV (base + 2) (vs 8) W
  | 9, vs, W => ∃ g x y, vs 8 = .pointer (some ⟨g, 0, none⟩) ∧ base + 2 ≤ g ∧ vs 6 = .agg #[x, y] ∧ Blk W g 77 #[x, y]
  | _, _, _ => True
def pastD : Nat → List Nat
  | 1 => [0]
  | 3 => [2]
  | 4 => [1, 3]
  | 5 => [4]
  | 6 => [5]
  | 7 => [5]
  | 9 => [8, 6]
  | 10 => [7]
  | _ => []
theorem past_cg {H : List Txn} {A : Option Addr} {c base : Nat} : ∀ j (vs vs' : Nat → Value) w, (∀ k, k = j ∨ k ∈ pastD j → vs k = vs' k) → PastW H A c base j vs w → PastW H A c base j vs' w := by
  intro j vs vs' w hk h
  match j, h with
  | 0, h | 1, h | 2, h | 3, h | 4, h | 5, h | 6, h | 7, h | 8, h =>
    simp only [PastW] at h ⊢
    rw [← hk _ (.inl rfl)]
    exact h
  | 9, h =>
    simp only [PastW] at h ⊢
    rw [← hk 8 (.inr (by simp [pastD])), ← hk 6 (.inr (by simp [pastD]))]
    exact h
  | n + 10, _ => trivial
/-- What an operation leaves. -/
def PastSt (base : Nat) (i : Nat) (W W' : World) : Prop := if i = 9 then VarSt (base + 2) W W' else Below W.heap.size W W'
theorem PastSt.var {base i : Nat} {W W' : World} (h : PastSt base i W W') : VarSt (base + 2) W W' := by
  unfold PastSt at h
  split at h
  · exact h
  · exact VarSt.of_below h
theorem VarV.var {b b' : Nat} {v : Value} {W W' : World} (h : VarV b v W) (hs : VarSt b' W W') : VarV b v W' := by
  obtain ⟨g, h1, h2, x, y, h3⟩ := h
  rcases hs.2 g h3.lt with e | ⟨_, cs, cs', _, e2, e3⟩
  · exact ⟨g, h1, h2, x, y, e.trans h3⟩
  · refine ⟨g, h1, h2, cs'[0]'(by omega), cs'[1]'(by omega), ?_⟩
    have : cs' = #[cs'[0]'(by omega), cs'[1]'(by omega)] := by
      refine Array.ext (by simp [e3]) fun i h1 h2 => ?_
      simp at h2
      match i, h2 with
      | 0, _ => rfl
      | 1, _ => rfl
    unfold Blk
    rw [← this]
    exact e2
theorem past_keep {H : List Txn} {A : Option Addr} {c base : Nat} : ∀ i j (vs : Nat → Value) w w', j ≠ i → j ∉ (fun _ => [] : Nat → List Nat) i → PastW H A c base j vs w → PastSt base i w w' → PastW H A c base j vs w' := by
  intro i j vs w w' hne _ h hs
  have hv := hs.var
  match j, h with
  | 0, h | 2, h | 7, h => exact h
  | 1, h | 3, h | 6, h =>
    simp only [PastW] at h ⊢
    exact h.var hv
  | 4, h | 5, h =>
    simp only [PastW] at h ⊢
    obtain ⟨u, h1, h2⟩ := h
    exact ⟨u, h1, h2.var hv⟩
  | 8, h =>
    simp only [PastW] at h ⊢
    exact VarV.var h hv
  | 9, h =>
    unfold PastSt at hs
    rw [if_neg (fun e => hne e.symm)] at hs
    simp only [PastW] at h ⊢
    obtain ⟨g, x, y, h1, h2, h3, h4⟩ := h
    exact ⟨g, x, y, h1, h2, h3, h4.below hs h4.lt⟩
  | n + 10, _ => trivial
theorem pastD_end : ∀ i, 11 ≤ i → pastD i = [] := by
  intro i hi
  match i, hi with
  | n + 11, _ => rfl
set_option maxRecDepth 100000 in
theorem past17_any (A : Option Addr) (c : Nat) (H : List Txn) (w : World) (h : TxnS w (Old w) (.slice A H.length c) H) (hn : SmallH H) (hr : rightH H = true) :
    Calls Tryz.prog 97 #[.agg #[.slice A H.length c]] w (OutG1 w H.length (pastE H)) := by
  obtain ⟨W0, hW0⟩ : ∃ W0, (w.alloc (.cells #[.slice A H.length c] 24)).alloc (.cells #[.int .i64 0, .slice none 0 0] 77) = W0 := ⟨_, rfl⟩
  have hB := below_two hW0
  have k0 := Blk.two1 hW0
  have k1 := Blk.two2 hW0
  have h32 : H.length ≤ 32 := ((rightH_iff H).1 hr).1
  go_enter Tryz.func97, Tryz.ntmps97
  go_wp2_with fail
  clear hW0
  refine wp_region_rel (PastW H A c w.heap.size) (fun W => Below w.heap.size w W ∧ Blk W w.heap.size 24 #[.slice A H.length c] ∧ Blk W (w.heap.size + 1) 77 #[.int .i64 0, .slice none 0 0]) (PastSt w.heap.size) pastD (by kernel_rfl) (by kernel_rfl) (by kernel_rfl) pastD_end (fun _ => []) (by kernel_rfl) past_cg past_keep ⟨hB.drew, k0, k1⟩ ?hstep ?hend
  case hstep =>
    intro i o ho vs W hS hd
    obtain ⟨hb, m0, m1⟩ := hS
    have hT := h.below hb
    match i, ho with
    | 0, ho =>
      simp only [List.getElem?_cons_zero, List.getElem?_cons_succ, Option.some.injEq] at ho
      subst ho
      simp only [acV, List.getElem?_toArray, List.getElem?_cons_zero, List.getElem?_cons_succ, Act.put, List.setIfInBounds_toArray, List.set_cons_zero, List.set_cons_succ]
      have c0 := m0.cell 0
      simp only [List.getElem?_toArray, List.getElem?_cons_zero] at c0
      go_wp2
      exact ⟨rfl, .agg #[.slice A H.length c], rfl, rfl, ⟨hb, m0, m1⟩, Below.refl _ _⟩
    | 1, ho =>
      have d0 := hd 0 (by simp [pastD])
      simp only [PastW] at d0
      simp only [List.getElem?_cons_zero, List.getElem?_cons_succ, Option.some.injEq] at ho
      subst ho
      simp only [acV, List.getElem?_toArray, List.getElem?_cons_zero, List.getElem?_cons_succ, Act.put, List.setIfInBounds_toArray, List.set_cons_zero, List.set_cons_succ]
      rw [d0]
      go_wp2_with fail
      refine (so17_any A c H _ hT hn hr).mono ?_
      rintro e W2 ⟨g, hg, rfl, kR, hb2⟩
      go_wp2
      exact ⟨rfl, _, rfl, ⟨g, Nat.le_trans hb.size hg, rfl, kR⟩, ⟨hb.trans (hb2.mono hb.size), m0.below hb2 m0.lt, m1.below hb2 m1.lt⟩, hb2⟩
    | 2, ho =>
      simp only [List.getElem?_cons_zero, List.getElem?_cons_succ, Option.some.injEq] at ho
      subst ho
      simp only [acV, List.getElem?_toArray, List.getElem?_cons_zero, List.getElem?_cons_succ, Act.put, List.setIfInBounds_toArray, List.set_cons_zero, List.set_cons_succ]
      have c0 := m0.cell 0
      simp only [List.getElem?_toArray, List.getElem?_cons_zero] at c0
      go_wp2
      exact ⟨rfl, .agg #[.slice A H.length c], rfl, rfl, ⟨hb, m0, m1⟩, Below.refl _ _⟩
    | 3, ho =>
      have d0 := hd 2 (by simp [pastD])
      simp only [PastW] at d0
      simp only [List.getElem?_cons_zero, List.getElem?_cons_succ, Option.some.injEq] at ho
      subst ho
      simp only [acV, List.getElem?_toArray, List.getElem?_cons_zero, List.getElem?_cons_succ, Act.put, List.setIfInBounds_toArray, List.set_cons_zero, List.set_cons_succ]
      rw [d0]
      go_wp2_with fail
      refine (wr17_any A c H _ hT hn hr).mono ?_
      rintro e W2 ⟨g, hg, rfl, kR, hb2⟩
      go_wp2
      exact ⟨rfl, _, rfl, ⟨g, Nat.le_trans hb.size hg, rfl, kR⟩, ⟨hb.trans (hb2.mono hb.size), m0.below hb2 m0.lt, m1.below hb2 m1.lt⟩, hb2⟩
    | 4, ho =>
      obtain ⟨g1, hg1, d1, q1⟩ := hd 1 (by simp [pastD])
      obtain ⟨g3, hg3, d3, q3⟩ := hd 3 (by simp [pastD])
      simp only [List.getElem?_cons_zero, List.getElem?_cons_succ, Option.some.injEq] at ho
      subst ho
      simp only [acV, List.getElem?_toArray, List.getElem?_cons_zero, List.getElem?_cons_succ, Act.put, List.setIfInBounds_toArray, List.set_cons_zero, List.set_cons_succ]
      rw [d1, d3]
      go_wp2_with fail
      refine (union12_any H.length _ _ _ _ (soE H) (wrE H) (Old W) _ (GrS.of_blk q1 q1.lt (by omega)) (GrS.of_blk q3 q3.lt (by omega)) (fun b hb => hb)).mono ?_
      rintro e W2 ⟨g, hg, rfl, kR, hb2⟩
      go_wp2
      exact ⟨rfl, _, rfl, ⟨_, rfl, g, Nat.le_trans hb.size hg, rfl, kR⟩, ⟨hb.trans (hb2.mono hb.size), m0.below hb2 m0.lt, m1.below hb2 m1.lt⟩, hb2⟩
    | 5, ho =>
      obtain ⟨u, d4, q4⟩ := hd 4 (by simp [pastD])
      simp only [List.getElem?_cons_zero, List.getElem?_cons_succ, Option.some.injEq] at ho
      subst ho
      simp only [acV, List.getElem?_toArray, List.getElem?_cons_zero, List.getElem?_cons_succ, Act.put, List.setIfInBounds_toArray, List.set_cons_zero, List.set_cons_succ]
      rw [d4]
      go_wp2
      exact ⟨rfl, _, rfl, ⟨_, rfl, q4⟩, ⟨hb, m0, m1⟩, Below.refl _ _⟩
    | 6, ho =>
      obtain ⟨u, d5, q5⟩ := hd 5 (by simp [pastD])
      simp only [List.getElem?_cons_zero, List.getElem?_cons_succ, Option.some.injEq] at ho
      subst ho
      simp only [acV, List.getElem?_toArray, List.getElem?_cons_zero, List.getElem?_cons_succ, Act.put, List.setIfInBounds_toArray, List.set_cons_zero, List.set_cons_succ]
      rw [d5]
      go_wp2
      exact ⟨rfl, _, rfl, q5, ⟨hb, m0, m1⟩, Below.refl _ _⟩
    | 7, ho =>
      obtain ⟨u, d5, q5⟩ := hd 5 (by simp [pastD])
      simp only [List.getElem?_cons_zero, List.getElem?_cons_succ, Option.some.injEq] at ho
      subst ho
      simp only [acV, List.getElem?_toArray, List.getElem?_cons_zero, List.getElem?_cons_succ, Act.put, List.setIfInBounds_toArray, List.set_cons_zero, List.set_cons_succ]
      rw [d5]
      go_wp2
      exact ⟨rfl, _, rfl, rfl, ⟨hb, m0, m1⟩, Below.refl _ _⟩
    | 8, ho =>
      simp only [List.getElem?_cons_zero, List.getElem?_cons_succ, Option.some.injEq] at ho
      subst ho
      simp only [acV, List.getElem?_toArray, List.getElem?_cons_zero, List.getElem?_cons_succ, Act.put, List.setIfInBounds_toArray, List.set_cons_zero, List.set_cons_succ]
      go_wp2
      have hsz := m1.lt
      exact ⟨rfl, _, rfl, ⟨W.heap.size, by omega, rfl, _, _, Blk.new _ _ _⟩, ⟨hb.alloc hb.size _, m0.alloc _, m1.alloc _⟩, (Below.refl _ _).alloc (Nat.le_refl _) _⟩
    | 9, ho =>
      obtain ⟨g, hg, d8, x, y, q8⟩ := hd 8 (by simp [pastD])
      obtain ⟨g6, hg6, d6, q6⟩ := hd 6 (by simp [pastD])
      simp only [List.getElem?_cons_zero, List.getElem?_cons_succ, Option.some.injEq] at ho
      subst ho
      simp only [acV, List.getElem?_toArray, List.getElem?_cons_zero, List.getElem?_cons_succ, Act.put, List.setIfInBounds_toArray, List.set_cons_zero, List.set_cons_succ]
      rw [d8, d6]
      have c0 := q8.cell 0
      have c1 := q8.cell 1
      have f0 := q8.frozen 0
      have f1 := q8.frozen 1
      simp only [List.getElem?_toArray, List.getElem?_cons_zero, List.getElem?_cons_succ] at c0 c1
      go_wp2
      have hq := (q8.set_ 0 (.int .i64 H.length)).set_ 1 (.slice (some ⟨g6, 0, none⟩) H.length H.length)
      have n1 : w.heap.size ≠ g := by omega
      have n2 : w.heap.size + 1 ≠ g := by omega
      refine ⟨rfl, undef, rfl, ⟨g, _, _, (show updV vs 9 undef 8 = _ from d8), hg, (show updV vs 9 undef 6 = _ from d6), by simpa using hq⟩, ⟨(hb.setCell (p := ⟨g, 0, none⟩) (by simp; omega) _).setCell (p := ⟨g, 1, none⟩) (by simp; omega) _, (m0.far n1 _).far n1 _, (m1.far n2 _).far n2 _⟩, ?_⟩
      unfold PastSt
      rw [if_pos rfl]
      refine ⟨⟨rfl, rfl, rfl, by simp⟩, fun k hk => ?_⟩
      by_cases e : k = g
      · subst e
        exact .inr ⟨hg, _, _, q8, hq, by simp⟩
      · exact .inl ((Below.heap_setCell _ ⟨g, 1, none⟩ _ k e).trans (Below.heap_setCell _ ⟨g, 0, none⟩ _ k e))
    | 10, ho =>
      have d7 := hd 7 (by simp [pastD])
      simp only [PastW] at d7
      simp only [List.getElem?_cons_zero, List.getElem?_cons_succ, Option.some.injEq] at ho
      subst ho
      simp only [acV, List.getElem?_toArray, List.getElem?_cons_zero, List.getElem?_cons_succ, Act.put, List.setIfInBounds_toArray, List.set_cons_zero, List.set_cons_succ]
      rw [d7]
      go_wp2
      exact ⟨rfl, _, rfl, trivial, ⟨hb, m0, m1⟩, Below.refl _ _⟩
    | n + 11, ho => simp at ho
  case hend =>
    rintro vs W ⟨hb, m0, m1⟩ hd
    obtain ⟨g, x, y, d8, hg, d6, q9⟩ := hd 9 (by simp) (by simp)
    obtain ⟨g6, hg6, d6', q6⟩ := hd 6 (by simp) (by simp)
    rw [d6] at d6'
    injection d6' with d6'
    simp only [Array.mk.injEq, List.cons.injEq, and_true] at d6'
    obtain ⟨rfl, rfl⟩ := d6'
    clear hd
    simp only [acV, List.getElem?_toArray, List.getElem?_cons_zero, List.getElem?_cons_succ, Act.put, List.setIfInBounds_toArray, List.set_cons_zero, List.set_cons_succ, List.length_cons, List.length_nil, Nat.reduceAdd]
    rw [d8, d6]
    have c0 := q9.cell 0
    have c1 := q9.cell 1
    have j0 := m1.cell 0
    have j1 := m1.cell 1
    have jf := m1.frozen 0
    have jf1 := m1.frozen 1
    simp only [List.getElem?_toArray, List.getElem?_cons_zero, List.getElem?_cons_succ] at c0 c1 j0 j1
    have hne : g6 ≠ w.heap.size + 1 := by
      rintro rfl
      have := m1.symm.trans q6
      simp at this
    go_wp2
    have kF0 := ((q6.far (p := ⟨w.heap.size + 1, 0, none⟩) hne (.int .i64 H.length)).far (p := ⟨w.heap.size + 1, 1, none⟩) hne (.slice (some ⟨g6, 0, none⟩) H.length H.length))
    have hF := ((hb.setCell (p := ⟨w.heap.size + 1, 0, none⟩) (by simp) (.int .i64 H.length)).setCell (p := ⟨w.heap.size + 1, 1, none⟩) (by simp) (.slice (some ⟨g6, 0, none⟩) H.length H.length))
    exact bodyPost_ret (v := .agg #[.int .i64 H.length, .slice (some ⟨g6, 0, none⟩) H.length H.length]) (by simp [results, Tryz.results97, go_sem, j0, j1]) rfl ⟨g6, hg6, rfl, kF0, hF⟩
end Go.Proofs.YtfhnamomiaekdaaGreatDoor
