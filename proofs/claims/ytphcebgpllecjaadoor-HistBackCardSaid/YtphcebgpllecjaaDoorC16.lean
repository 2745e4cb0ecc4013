/-
  Slices of strings that read as lists; no program in sight.
-/
import Derived.Test.YtphcebgpllecjaaDoorProg
import Derived.Laws.IdiomStrings
import Derived.Laws.Rows
import Derived.Test.YtphcebgpllecjaaDoorC09
import Derived.Test.YtphcebgpllecjaaDoorC01
import Derived.Test.YtphcebgpllecjaaDoorC02
set_option linter.unusedVariables false
set_option linter.unusedSimpArgs false
namespace Go.Inq
open Go Go.RowKit

def encS (s : ByteArray) : List Value := [.string s]
/-- A slice of strings. -/
def StrS (w : World) (K : Nat → Prop) (v : Value) (l : List ByteArray) : Prop := SlR 1 (Flat encS) w K v l

section
variable {w w' : World} {K K' : Nat → Prop} {v : Value} {l : List ByteArray}
theorem StrS.keep (h : StrS w K v l) (ha : Agree K w w') (hk : ∀ b, K b → K' b) : StrS w' K' v l := SlR.keep (Flat.stab _) h ha hk
theorem StrS.below (h : StrS w (Old w) v l) (hb : Below w.heap.size w w') : StrS w' (Old w') v l := SlR.below (Flat.stab _) h hb
theorem StrS.fit (h : StrS w K v l) (hk : ∀ b, K b → K' b) : StrS w K' v l := SlR.fit (Flat.stab _) h hk
theorem StrS.form (h : StrS w K v l) : ∃ A c, v = .slice A l.length c := by
  obtain ⟨A, c, hv, _⟩ := SlR.len h
  exact ⟨A, c, hv⟩
theorem StrS.at_ {A : Option Addr} {n c : Nat} (h : StrS w K (.slice A n c) l) {i : Nat} (hi : i < l.length) : ∃ b off, A = some ⟨b, off, none⟩ ∧ K b ∧ w.cell? ⟨b, off + i, none⟩ = some (.string l[i]) := by
  obtain ⟨b, off, cs, hA, hK, _, hR, hc⟩ := SlR.at_ h hi
  unfold Flat at hR
  subst hR
  have := hc 0 _ rfl
  rw [Nat.mul_one, Nat.add_zero] at this
  exact ⟨b, off, hA, hK, this⟩
theorem StrS.cells {b off n c : Nat} (h : StrS w K (.slice (some ⟨b, off, none⟩) n c) l) {i : Nat} (hi : i < l.length) : K b ∧ w.cell? ⟨b, off + i, none⟩ = some (.string l[i]) := by
  obtain ⟨cs, hK, _, hR, hc⟩ := SlR.cells h hi
  unfold Flat at hR
  subst hR
  have := hc 0 _ rfl
  rw [Nat.mul_one, Nat.add_zero] at this
  exact ⟨hK, this⟩
theorem StrS.nil (w : World) (K : Nat → Prop) (A : Option Addr) (c : Nat) : StrS w K (.slice A 0 c) [] := SlR.nil _ _ _ _ _ _
theorem StrS.take {A : Option Addr} {n c : Nat} (h : StrS w K (.slice A n c) l) {k : Nat} (hk : k ≤ l.length) : StrS w K (.slice A k c) (l.take k) := SlR.take h hk
/-- A block of strings, whole. -/
theorem StrS.of_blk {g : Nat} {t : TypeId} (h : Blk w g t (l.map Value.string).toArray) (hK : K g) : StrS w K (.slice (some ⟨g, 0, none⟩) l.length l.length) l := by
  refine ⟨some ⟨g, 0, none⟩, l.length, l.map encS, rfl, Nat.le_refl _, by simp, fun i cs x h1 h2 => ?_, fun _ => ⟨g, 0, rfl, hK, fun i j cs u h1 h2 => ?_⟩⟩
  · rw [List.getElem?_map, h2] at h1
    injection h1 with h1
    exact ⟨by rw [← h1]; rfl, h1.symm⟩
  · rw [List.getElem?_map] at h1
    cases hl : l[i]? with
    | none => rw [hl] at h1; cases h1
    | some x =>
      rw [hl] at h1
      injection h1 with h1
      subst h1
      cases j with
      | zero =>
        injection h2 with h2
        rw [Nat.zero_add, Nat.mul_one, Nat.add_zero, h.cell, List.getElem?_toArray, List.getElem?_map, hl, ← h2]
        rfl
      | succ j => simp [encS] at h2
end
theorem encS_one : ∀ (x : ByteArray), ∀ u ∈ encS x, u.oneCell' = true := by
  intro x u hu
  simp [encS] at hu
  subst hu
  rfl
theorem bytes_eq {a b : ByteArray} : (a.toList == b.toList) = decide (a = b) := by
  rw [Bool.eq_iff_iff, beq_iff_eq, decide_eq_true_iff, Lib.toList_data, Lib.toList_data]
  exact ⟨bytes_inj, fun h => by rw [h]⟩
end Go.Inq

namespace Go.Proofs.YtphcebgpllecjaaDoor
open Go.RowKit Go.Inq
set_option maxHeartbeats 1000000
attribute [local go_sem ↓] Go.wp_at_zero Go.wp_at_succ
theorem infoS : (Tryd.prog.info? 9).map (fun i => (i.zero, i.size, i.bytes)) = some (some (.string ByteArray.empty), 1, 16) := by kernel_rfl

/-- What a function of layer 2 hands back: a row of strings, of its own, and an error. -/
def RowOut (r : List (List UInt8) × Int) (w : World) (e : Ending) (w' : World) : Prop :=
  ∃ v, e = .returned (.tuple #[v, .int .i64 r.2]) ∧ StrS w' (fun b => w.heap.size ≤ b ∧ b < w'.heap.size) v (r.1.map mk) ∧ Below w.heap.size w w'

theorem RowOut.open {r : List (List UInt8) × Int} {w : World} {e : Ending} {w' : World} (h : RowOut r w e w') :
    ∃ A c, e = .returned (.tuple #[.slice A r.1.length c, .int .i64 r.2]) ∧ StrS w' (fun b => w.heap.size ≤ b ∧ b < w'.heap.size) (.slice A r.1.length c) (r.1.map mk) ∧ Below w.heap.size w w' := by
  obtain ⟨v, he, hv, hb⟩ := h
  obtain ⟨A, c, rfl⟩ := StrS.form hv
  rw [List.length_map] at he hv
  exact ⟨A, c, he, hv, hb⟩
/-- The lines' bytes. -/
def byt (l : List ByteArray) : List (List UInt8) := l.map (·.data.toList)
/-- A text of lines. -/
def joinL (ls : List (List UInt8)) : List UInt8 := (ls.map (· ++ [10])).flatten
theorem joinL_take {l : List ByteArray} {i : Nat} (hi : i < l.length) : joinL (byt (l.take (i + 1))) = joinL (byt (l.take i)) ++ l[i].data.toList ++ [10] := by
  unfold joinL byt
  rw [List.take_succ_eq_append_getElem hi]
  simp only [List.map_append, List.flatten_append, List.map_cons, List.map_nil, List.flatten_cons, List.flatten_nil, List.append_nil, List.append_assoc]
theorem joinL_le (l : List ByteArray) (i : Nat) : (joinL (byt (l.take i))).length ≤ (joinL (byt l)).length := by
  have e : byt l = byt (l.take i) ++ byt (l.drop i) := by unfold byt; rw [← List.map_append, List.take_append_drop]
  rw [e]
  unfold joinL
  rw [List.map_append, List.flatten_append, List.length_append]
  omega
theorem byte_ten (b : UInt8) : ((b.toNat : Int) == 10) = decide (b = 10) := by
  rw [Bool.eq_iff_iff, beq_iff_eq, decide_eq_true_iff]
  constructor
  · intro e; exact UInt8.toNat_inj.1 (by simpa using Int.ofNat_inj.1 e)
  · intro e; rw [e]; rfl
theorem bytes_at (s : ByteArray) {i : Nat} (h : i < s.size) : ∃ h2 : i < s.data.toList.length, s[i] = s.data.toList[i] := by
  have h2 : i < s.data.toList.length := by rw [← Lib.size_eq]; exact h
  refine ⟨h2, ?_⟩
  have := Lib.data_getElem? s i h
  rw [List.getElem?_eq_getElem h2] at this
  exact (Option.some.inj this).symm

end Go.Proofs.YtphcebgpllecjaaDoor

namespace Go.Proofs.YtphcebgpllecjaaDoor
open Go.RowKit Go.Inq
set_option maxHeartbeats 1000000
attribute [local go_sem ↓] Go.wp_at_zero Go.wp_at_succ

/-- One digit as a string: the bytes of a block of its own. -/
theorem digit_conv (n : Nat) (w : World) : (convert 109 9 (.slice (some ⟨w.heap.size, 0, none⟩) 1 1)).run Tryd.prog (w.alloc (.cells #[.int .u8 (48 + (n : Int) % 10)] 5)) =
    .ok (.string (mk [dig (n % 10)])) (w.alloc (.cells #[.int .u8 (48 + (n : Int) % 10)] 5)) := by
  refine run_convert_bytes_back (P := Tryd.prog) _ 109 9 5 ⟨w.heap.size, 0, none⟩ 1 [dig (n % 10)] Tryd.underlying109 Tryd.underlying5 Tryd.underlying9 (fun j hj => ?_)
  have : j = 0 := by simp at hj; exact hj
  subst this
  have hb : Blk (w.alloc (.cells #[.int .u8 (48 + (n : Int) % 10)] 5)) w.heap.size 5 _ := Blk.new _ _ _
  have := hb.cell 0
  rw [show (⟨w.heap.size, 0, none⟩ : Addr).add 0 = ⟨w.heap.size, 0, none⟩ from rfl, this]
  simp [dig_toNat (show n % 10 < 10 by omega)]

end Go.Proofs.YtphcebgpllecjaaDoor

namespace Go.Proofs.YtphcebgpllecjaaDoor
open Go.RowKit Go.Inq
set_option maxHeartbeats 1000000
attribute [local go_sem ↓] Go.wp_at_zero Go.wp_at_succ

/-- What a Take hands back. -/
def TakeOut (r : Int × Int × Int) (w : World) (e : Ending) (w' : World) : Prop := e = .returned (.tuple #[.int .i64 r.1, .int .i64 r.2.1, .int .i64 r.2.2]) ∧ w = w'

/-- What a Whole hands back. -/
def WholeOut (r : Int × Int) (w : World) (e : Ending) (w' : World) : Prop := e = .returned (.tuple #[.int .i64 r.1, .int .i64 r.2]) ∧ w = w'
end Go.Proofs.YtphcebgpllecjaaDoor

namespace Go.Inq
open Go
section
variable {P : Program} {ops : Array Oper} {Q : Exit → Act → World → Prop}

/-- The slots that an operation looks at. -/
def readsT (ops : Array Oper) (o : Oper) : List Nat :=
  (o.op.operands.toList.filterMap fun | .tmp t => some t | _ => none) ++ (match o.guard with | some (j, _) => ((ops[j]?).bind (·.dst)).toList | none => [])

def floatB (ops : Array Oper) : Bool :=
  Region.noSelect ops && (List.range ops.size).all fun i => match ops[i]? with
    | none => true
    | some o => (o.after.all fun e => !Region.binds .any e || decide (e.on < i)) &&
      (List.range ops.size).all fun j => match ops[j]? with
        | none => true
        | some oj => match oj.dst with
          | none => true
          | some t => (i == j || o.dst != some t) && (!(readsT ops o).contains t || (decide (j < i) && waitsT .any ops ops.size i j) || (decide (i < j) && waitsT .any ops ops.size j i) || i == j)

theorem floatB_after (h : floatB ops = true) {i : Nat} {o : Oper} (ho : ops[i]? = some o) : ∀ e ∈ o.after, Region.binds .any e = true → e.on < i := by
  intro e he hb
  unfold floatB at h
  rw [Bool.and_eq_true, List.all_eq_true] at h
  have h1 := h.2 i (List.mem_range.2 (Array.getElem?_eq_some_iff.1 ho).1)
  rw [ho] at h1
  dsimp only at h1
  rw [Bool.and_eq_true] at h1
  have h2 := Array.all_eq_true_iff_forall_mem.1 h1.1 e he
  rw [hb] at h2
  simpa using h2
theorem floatB_pair (h : floatB ops = true) {i j : Nat} {o oj : Oper} (ho : ops[i]? = some o) (hj : ops[j]? = some oj) {t : Nat} (ht : oj.dst = some t) :
    (i = j ∨ o.dst ≠ some t) ∧ (t ∈ readsT ops o → (j < i ∧ waitsT .any ops ops.size i j = true) ∨ (i < j ∧ waitsT .any ops ops.size j i = true) ∨ i = j) := by
  unfold floatB at h
  rw [Bool.and_eq_true, List.all_eq_true] at h
  have h1 := h.2 i (List.mem_range.2 (Array.getElem?_eq_some_iff.1 ho).1)
  rw [ho] at h1
  dsimp only at h1
  rw [Bool.and_eq_true, List.all_eq_true] at h1
  have h2 := h1.2 j (List.mem_range.2 (Array.getElem?_eq_some_iff.1 hj).1)
  rw [hj] at h2
  dsimp only at h2
  rw [ht] at h2
  dsimp only at h2
  rw [Bool.and_eq_true] at h2
  refine ⟨?_, fun hm => ?_⟩
  · have := h2.1
    rw [Bool.or_eq_true, beq_iff_eq, bne_iff_ne] at this
    exact this
  · have h3 := h2.2
    have hc : (readsT ops o).contains t = true := by simpa using hm
    rw [hc] at h3
    simp only [Bool.not_true, Bool.false_or, Bool.or_eq_true, Bool.and_eq_true, decide_eq_true_eq, beq_iff_eq] at h3
    rcases h3 with (h3 | h3) | h3
    · exact .inl h3
    · exact .inr (.inl h3)
    · exact .inr (.inr h3)

/-- The slots behind the operations of L. -/
structure Flo (ops : Array Oper) (a0 : Act) (vs : Nat → Value) (L : Nat → Bool) (a : Act) : Prop where
  defers : a.defers = a0.defers
  size : a.tmps.size = a0.tmps.size
  hit : ∀ j o t, ops[j]? = some o → o.dst = some t → L j = true → t < a0.tmps.size → a.tmps[t]? = some (vs j)
  miss : ∀ t, (∀ j o, ops[j]? = some o → o.dst = some t → L j = false) → a.tmps[t]? = a0.tmps[t]?

variable {a0 a b : Act} {vs : Nat → Value} {L L' : Nat → Bool}
theorem Flo.start (h : ∀ j, L j = false) : Flo ops a0 vs L a0 := ⟨rfl, rfl, (fun j _ _ _ _ hl => absurd hl (by rw [h j]; simp)), fun _ _ => rfl⟩
theorem put_size (a : Act) (d : Option Tmp) (v : Value) : (a.put d v).tmps.size = a.tmps.size := by
  cases d <;> simp [Act.put]
theorem put_defers (a : Act) (d : Option Tmp) (v : Value) : (a.put d v).defers = a.defers := by
  cases d <;> simp [Act.put]
theorem put_ne {d : Option Tmp} {t : Nat} (h : d ≠ some t) (a : Act) (v : Value) : (a.put d v).tmps[t]? = a.tmps[t]? := by
  cases d with
  | none => rfl
  | some d =>
    have : d ≠ t := fun e => h (by rw [e])
    simp [Act.put, Array.getElem?_setIfInBounds_ne this]
theorem put_eq {t : Nat} (a : Act) (v : Value) (h : t < a.tmps.size) : (a.put (some t) v).tmps[t]? = some v := by
  simp [Act.put, h]
theorem Flo.put (hB : floatB ops = true) {i : Nat} {o : Oper} (ho : ops[i]? = some o) (h : Flo ops a0 vs L a) (hL : ∀ j, L' j = (L j || decide (j = i))) : Flo ops a0 vs L' (a.put o.dst (vs i)) := by
  refine ⟨by rw [put_defers, h.defers], by rw [put_size, h.size], fun j oj t hj ht hl hs => ?_, fun t ht => ?_⟩
  · by_cases hji : j = i
    · subst hji
      have : oj = o := Option.some.inj (hj.symm.trans ho)
      subst this
      rw [ht, put_eq _ _ (by rw [h.size]; exact hs)]
    · have h1 : L j = true := by rw [hL] at hl; simpa [hji] using hl
      have hne : o.dst ≠ some t := by
        rcases (floatB_pair hB ho hj ht).1 with e | e
        · exact absurd e.symm hji
        · exact e
      rw [put_ne hne]
      exact h.hit j oj t hj ht h1 hs
  · have hne : o.dst ≠ some t := fun e => by
      have := ht i o ho e
      rw [hL] at this
      simp at this
    rw [put_ne hne]
    refine h.miss t fun j oj hj hd => ?_
    have := ht j oj hj hd
    rw [hL] at this
    rw [Bool.or_eq_false_iff] at this
    exact this.1
theorem Flo.agree (h : Flo ops a0 vs L a) (h' : Flo ops a0 vs L' b) {t : Nat} (ht : ∀ j o, ops[j]? = some o → o.dst = some t → L j = L' j) : a.tmps[t]? = b.tmps[t]? := by
  by_cases hs : t < a0.tmps.size
  · by_cases hx : ∃ j o, ops[j]? = some o ∧ o.dst = some t ∧ L j = true
    · obtain ⟨j, o, hj, hd, hl⟩ := hx
      rw [h.hit j o t hj hd hl hs, h'.hit j o t hj hd (by rw [← ht j o hj hd]; exact hl) hs]
    · have hf : ∀ j o, ops[j]? = some o → o.dst = some t → L j = false := fun j o hj hd => by
        cases hl : L j with
        | false => rfl
        | true => exact absurd ⟨j, o, hj, hd, hl⟩ hx
      rw [h.miss t hf, h'.miss t fun j o hj hd => by rw [← ht j o hj hd]; exact hf j o hj hd]
  · rw [Array.getElem?_eq_none (by rw [h.size]; omega), Array.getElem?_eq_none (by rw [h'.size]; omega)]

theorem put_inj {d : Option Tmp} {u v : Value} (hs : a.tmps.size = b.tmps.size) (h : b.put d u = b.put d v) : a.put d u = a.put d v := by
  cases d with
  | none => rfl
  | some t =>
    rcases Nat.lt_or_ge t b.tmps.size with ht | ht
    · have h1 := put_eq b u ht
      rw [h, put_eq b v ht] at h1
      injection h1 with h1
      rw [h1]
    · have : ∀ x : Value, a.put (some t) x = a := fun x => by
        unfold Act.put
        dsimp only
        rw [Array.setIfInBounds_eq_of_size_le (show a.tmps.size ≤ t by rw [hs]; exact ht)]
      rw [this, this]

theorem wpOp_float {S : World → Prop} {i : Nat} {o : Oper} {w : World} {v : Value} {K : Act → World → Prop} (ho : ops[i]? = some o) (hsel : ∀ cs b, o.op ≠ .select cs b)
    (hr : ∀ t ∈ readsT ops o, a.tmps[t]? = b.tmps[t]?) (hs : a.tmps.size = b.tmps.size) (hK : ∀ w', S w' → K (a.put o.dst v) w')
    (h : wpList P ops (fun e a' w' => e = .normal ∧ a' = b.put o.dst v ∧ S w') [o] b w) : wpOp P ops Q i K a w := by
  have hw : Region.wanted o (yielded ops a.tmps) = Region.wanted o (yielded ops b.tmps) := by
    unfold Region.wanted
    cases hg : o.guard with
    | none => rfl
    | some g =>
      obtain ⟨j, x⟩ := g
      dsimp only
      have : yielded ops a.tmps j = yielded ops b.tmps j := by
        unfold yielded
        cases hd : (ops[j]?).bind (·.dst) with
        | none => rfl
        | some t =>
          have hm : t ∈ readsT ops o := by
            unfold readsT
            rw [hg]
            refine List.mem_append.2 (.inr ?_)
            show t ∈ ((ops[j]?).bind (·.dst)).toList
            rw [hd]
            simp
          simp only [Option.bind_some]
          rw [hr t hm]
      rw [this]
  have he : execOp a.eval o = execOp b.eval o := by
    refine execOp_congr o hsel fun x hx => ?_
    cases x with
    | tmp t =>
      have hm : t ∈ readsT ops o := by
        unfold readsT
        refine List.mem_append.2 (.inl ?_)
        rw [List.mem_filterMap]
        exact ⟨.tmp t, by simpa using hx, rfl⟩
      have := hr t hm
      simp only [Act.eval, Array.getD_eq_getD_getElem?, this]
    | _ => rfl
  unfold wpOp
  rw [ho]
  dsimp only
  unfold wpList at h
  rw [hw]
  by_cases hwd : Region.wanted o (yielded ops b.tmps) = true
  · rw [if_pos hwd] at h ⊢
    left
    rcases h with h | ⟨_, _, _, h, _⟩
    · unfold Oper.wp at *
      rw [he]
      generalize (execOp b.eval o).run P w = r at h
      have key : ∀ u w', wpList P ops (fun e a' w' => e = .normal ∧ a' = b.put o.dst v ∧ S w') [] (b.put o.dst u) w' → K (a.put o.dst u) w' := fun u w' h => by
        unfold wpList at h
        rw [put_inj hs h.2.1]
        exact hK w' h.2.2
      cases r with
      | halt x w' =>
        cases x <;> simp only [Oper.upon] at h ⊢
        exact absurd h.1 (by simp)
      | ok n w' =>
        cases n with
        | value u => exact key u w' h
        | skip => exact key undef w' h
        | defer d =>
          simp only [Oper.upon] at h
          unfold wpList at h
          have h1 := congrArg Act.defers h.2.1
          rw [put_defers, put_defers] at h1
          exact absurd (congrArg List.length h1) (by simp)
        | enter f args =>
          simp only [Oper.upon] at h ⊢
          refine Calls.mono h fun e w'' he => ?_
          cases e with
          | returned u => exact key u w'' he
          | panicked c => exact absurd he.1 (by simp)
          | outgrown =>
            obtain ⟨_, _, h1, _⟩ := he
            cases h1
        | row r args =>
          simp only [Oper.upon] at h ⊢
          exact Rows.mono h fun u w'' he => key u w'' he
        | _ => simp only [Oper.upon] at h
    · cases h
  · rw [if_neg hwd] at h ⊢
    unfold wpList at h
    rw [put_inj hs h.2.1]
    exact hK w h.2.2

/-- How many below n are not of f. -/
def lacks : Nat → (Nat → Bool) → Nat
  | 0, _ => 0
  | n + 1, f => lacks n f + if f n then 0 else 1
theorem lacks_all (f : Nat → Bool) : ∀ n, lacks n f = 0 → ∀ i, i < n → f i = true
  | 0, _, i, hi => absurd hi (by omega)
  | n + 1, h, i, hi => by
    unfold lacks at h
    by_cases hn : f n = true
    · by_cases hin : i = n
      · rw [hin]; exact hn
      · exact lacks_all f n (by omega) i (by omega)
    · rw [if_neg hn] at h; omega
theorem lacks_same {f g : Nat → Bool} : ∀ n, (∀ j, j < n → f j = g j) → lacks n f = lacks n g
  | 0, _ => rfl
  | n + 1, h => by unfold lacks; rw [lacks_same n (fun j hj => h j (by omega)), h n (by omega)]
theorem lacks_one {f g : Nat → Bool} {i : Nat} (hf : f i = false) (hg : ∀ j, g j = (f j || decide (j = i))) : ∀ n, i < n → lacks n f = lacks n g + 1
  | 0, h => absurd h (by omega)
  | n + 1, h => by
    unfold lacks
    by_cases hin : i = n
    · subst hin
      have h1 : lacks i f = lacks i g := lacks_same i fun j hj => by rw [hg j]; simp; intro; omega
      rw [h1, hf, hg i]
      simp
    · have h1 := lacks_one hf hg n (by omega)
      have h2 : g n = f n := by rw [hg n]; simp; intro; omega
      rw [h1, h2]
      omega
theorem lacks_none : ∀ n, lacks n (fun _ => false) = n
  | 0 => rfl
  | n + 1 => by unfold lacks; rw [lacks_none n]; rfl

theorem wpAny_float {S : World → Prop} (hB : floatB ops = true) {ac : Nat → Act} (hac : ∀ i, Flo ops a0 vs (fun j => decide (j < i)) (ac i))
    (hstep : ∀ i o, ops[i]? = some o → ∀ w, S w → wpList P ops (fun e a' w' => e = .normal ∧ a' = (ac i).put o.dst (vs i) ∧ S w') [o] (ac i) w)
    (hend : ∀ w, S w → Q .normal (ac ops.size) w) :
    ∀ (fuel : Nat) (listed : Array Bool) (a : Act) (w : World), Closed .any ops listed → listed.size = ops.size → lacks ops.size (fun j => listed.getD j false) = fuel → Flo ops a0 vs (fun j => listed.getD j false) a → S w → wpAny P .any ops Q fuel listed a w := by
  have hnone : ∀ (listed : Array Bool), listed.size = ops.size → Region.ready .any ops listed = [] → ∀ i, i < ops.size → listed.getD i false = true := by
    intro listed hsz hr i
    induction i using Nat.strongRecOn with
    | _ i ih =>
      intro hi
      cases hl : listed.getD i false with
      | true => rfl
      | false =>
        exfalso
        have ho : ops[i]? = some ops[i] := Array.getElem?_eq_getElem hi
        have hm : i ∈ Region.ready .any ops listed := by
          rw [mem_ready]
          refine ⟨?_, ops[i], ho, fun e he hb => ?_⟩
          · have hi2 : i < listed.size := by omega
            simp only [Array.getD_eq_getD_getElem?, Array.getElem?_eq_getElem hi2, Option.getD_some] at hl ⊢
            exact hl
          · have h1 := floatB_after hB ho e he hb
            exact ih e.on h1 (by omega)
        rw [hr] at hm
        cases hm
  have hfin : ∀ (listed : Array Bool) (a : Act) (w : World), (∀ i, i < ops.size → listed.getD i false = true) → Flo ops a0 vs (fun j => listed.getD j false) a → S w → Q .normal a w := by
    intro listed a w hall hf hS
    have : a = ac ops.size := by
      have h1 : a.tmps = (ac ops.size).tmps := by
        refine Array.ext_getElem? fun t => ?_
        refine hf.agree (hac ops.size) fun j o hj _ => ?_
        have hjs := (Array.getElem?_eq_some_iff.1 hj).1
        rw [hall j hjs]
        simp [hjs]
      have h2 : a.defers = (ac ops.size).defers := by rw [hf.defers, (hac ops.size).defers]
      cases a
      cases hx : ac ops.size
      rw [hx] at h1 h2
      simp only at h1 h2
      rw [h1, h2]
    rw [this]
    exact hend w hS
  intro fuel
  induction fuel with
  | zero =>
    intro listed a w hcl hsz hlk hf hS
    have hall := lacks_all _ _ hlk
    refine ⟨?_, hfin listed a w hall hf hS⟩
    rw [List.eq_nil_iff_forall_not_mem]
    intro i hi
    obtain ⟨h1, o, ho, _⟩ := mem_ready.1 hi
    have his := (Array.getElem?_eq_some_iff.1 ho).1
    have h2 := hall i his
    have hi2 : i < listed.size := by omega
    simp only [Array.getD_eq_getD_getElem?, Array.getElem?_eq_getElem hi2, Option.getD_some] at h1 h2
    rw [h1] at h2
    cases h2
  | succ fuel ih =>
    intro listed a w hcl hsz hlk hf hS
    refine ⟨fun hr => hfin listed a w (hnone listed hsz hr) hf hS, fun i hi => ?_⟩
    obtain ⟨h1, o, ho, hall⟩ := mem_ready.1 hi
    have his := (Array.getElem?_eq_some_iff.1 ho).1
    have hi2 : i < listed.size := by omega
    have hun : listed.getD i false = false := by
      simp only [Array.getD_eq_getD_getElem?, Array.getElem?_eq_getElem hi2, Option.getD_some] at h1 ⊢
      exact h1
    have hset : ∀ j, (listed.setIfInBounds i true).getD j false = (listed.getD j false || decide (j = i)) := fun j => by
      by_cases hji : j = i
      · subst hji
        simp [Array.getD_eq_getD_getElem?, hi2]
      · rw [getD_set_ne false (Ne.symm hji)]
        simp [hji]
    have hsel := fun cs b => Region.noSelect_spec (ops := ops) (by unfold floatB at hB; rw [Bool.and_eq_true] at hB; exact hB.1) i o cs b ho
    refine wpOp_float (S := S) (b := ac i) (v := vs i) ho hsel (fun t ht => ?_) (by rw [hf.size, (hac i).size]) (fun w' hS' => ?_) (hstep i o ho w hS)
    · refine hf.agree (hac i) fun j oj hj hd => ?_
      rcases (floatB_pair hB ho hj hd).2 ht with ⟨h2, h3⟩ | ⟨h2, h3⟩ | h2
      · rw [hcl.ready h3 hi]
        simp [h2]
      · have h4 : decide (j < i) = false := by simp; omega
        rw [h4]
        cases hlj : listed.getD j false with
        | false => rfl
        | true =>
          have := hcl.waits _ _ _ h3 hlj
          rw [hun] at this
          cases this
      · subst h2
        rw [hun]
        simp
    · refine ih (listed.setIfInBounds i true) _ w' (hcl.set_ hi) (by rw [Array.size_setIfInBounds]; exact hsz) ?_ (hf.put hB ho hset) hS'
      have := lacks_one (f := fun j => listed.getD j false) (g := fun j => (listed.setIfInBounds i true).getD j false) hun hset ops.size his
      omega

/-- The row, walked in its own order: each operation in any world of S. -/
def wpFloat (P : Program) (ops : Array Oper) (S : World → Prop) (K : Act → Prop) : List Oper → Act → Prop
  | [], a => K a
  | o :: os, a => ∃ v, (∀ w, S w → wpList P ops (fun e a' w' => e = .normal ∧ a' = a.put o.dst v ∧ S w') [o] a w) ∧ wpFloat P ops S K os (a.put o.dst v)

theorem float_open {S : World → Prop} {K : Act → Prop} : ∀ (os : List Oper) (a : Act), wpFloat P ops S K os a → ∃ (vs : Nat → Value) (ac : Nat → Act), ac 0 = a ∧
    (∀ i o, os[i]? = some o → (∀ w, S w → wpList P ops (fun e a' w' => e = .normal ∧ a' = (ac i).put o.dst (vs i) ∧ S w') [o] (ac i) w) ∧ ac (i + 1) = (ac i).put o.dst (vs i)) ∧ (∀ i, os.length ≤ i → ac i = ac os.length) ∧ K (ac os.length)
  | [], a, h => ⟨fun _ => undef, fun _ => a, rfl, fun i o h => by simp at h, fun _ _ => rfl, h⟩
  | o :: os, a, h => by
    obtain ⟨v, h1, h2⟩ := h
    obtain ⟨vs, ac, e0, hs, hl, hk⟩ := float_open os _ h2
    refine ⟨fun i => match i with | 0 => v | i + 1 => vs i, fun i => match i with | 0 => a | i + 1 => ac i, rfl, fun i o' ho => ?_, fun i hi => ?_, hk⟩
    · cases i with
      | zero =>
        simp only [List.getElem?_cons_zero, Option.some.injEq] at ho
        subst ho
        exact ⟨h1, e0⟩
      | succ i => exact hs i o' (by simpa using ho)
    · cases i with
      | zero => simp at hi
      | succ i => exact hl i (by simpa using hi)

/-- A REGION THAT DRAWS ITS ORDER, WHERE EVERY OPERATION FLOATS IN S. -/
theorem wp_region_float {id : Nat} {w : World} {l : List Oper} (S : World → Prop) (hm : P.follows .mixedOrders = true) (hB : floatB l.toArray = true) (hS : S w.drew)
    (h : wpFloat P l.toArray S (fun a' => ∀ w', S w' → Q .normal a' w') l a) : (Code.region id l.toArray true).wp P Q a w := by
  obtain ⟨vs, ac, e0, hs, hl, hk⟩ := float_open _ _ h
  have hsz : l.toArray.size = l.length := by simp
  have hget : ∀ i : Nat, l.toArray[i]? = l[i]? := fun i => List.getElem?_toArray ..
  have hac : ∀ i, Flo l.toArray a vs (fun j => decide (j < i)) (ac i) := by
    intro i
    induction i with
    | zero => rw [e0]; exact Flo.start fun j => by simp
    | succ i ih =>
      cases hx : l[i]? with
      | none =>
        have hle : l.length ≤ i := by
          rcases Nat.lt_or_ge i l.length with h1 | h1
          · rw [List.getElem?_eq_getElem h1] at hx; cases hx
          · exact h1
        rw [hl (i + 1) (by omega), ← hl i hle]
        refine ⟨ih.defers, ih.size, fun j o t hj hd hlt hs => ih.hit j o t hj hd ?_ hs, fun t ht => ih.miss t fun j o hj hd => ?_⟩
        · have := (Array.getElem?_eq_some_iff.1 hj).1
          simp at this ⊢
          omega
        · have := ht j o hj hd
          simp at this ⊢
          omega
      | some o =>
        rw [(hs i o hx).2]
        refine ih.put hB (by rw [hget]; exact hx) fun j => ?_
        rw [Bool.eq_iff_iff]
        simp
        omega
  refine wp_region_any hm ?_
  refine wpAny_float (S := S) hB hac (fun i o ho => (hs i o (by rw [← hget]; exact ho)).1) (fun w hw => by rw [hsz]; exact hk w hw) _ _ a _ (Closed.start _ _ _) (by simp) ?_ (Flo.start fun j => getD_replicate_false _ _) hS
  have : (fun j => (Array.replicate l.toArray.size false).getD j false) = fun _ => false := funext fun j => getD_replicate_false _ _
  rw [this, lacks_none]
end
end Go.Inq

namespace Go.Proofs.YtphcebgpllecjaaDoor
open Go.RowKit Go.Inq
set_option maxHeartbeats 1000000
attribute [local go_sem ↓] Go.wp_at_zero Go.wp_at_succ

theorem word_len (k : Nat) : (wordK k).length ≤ 10 := by
  unfold wordK
  split <;> simp
end Go.Proofs.YtphcebgpllecjaaDoor

namespace Go.Proofs.YtphcebgpllecjaaDoor
open Go.RowKit Go.Inq
set_option maxHeartbeats 1000000
attribute [local go_sem ↓] Go.wp_at_zero Go.wp_at_succ
theorem byte_sp (b : UInt8) : ((b.toNat : Int) != 32) = decide (b ≠ 32) := by
  rw [Bool.eq_iff_iff, bne_iff_ne, decide_eq_true_iff]
  constructor
  · intro h e; apply h; rw [e]; rfl
  · intro h e; exact h (UInt8.toNat_inj.1 (by simpa using Int.ofNat_inj.1 e))

end Go.Proofs.YtphcebgpllecjaaDoor

namespace Go.Proofs.YtphcebgpllecjaaDoor
open Go.RowKit Go.Inq
set_option maxHeartbeats 2000000
attribute [local go_sem ↓] Go.wp_at_zero Go.wp_at_succ
end Go.Proofs.YtphcebgpllecjaaDoor

namespace Go.Proofs.YtphcebgpllecjaaDoor
open Go.RowKit Go.Inq
set_option maxHeartbeats 1000000
attribute [local go_sem ↓] Go.wp_at_zero Go.wp_at_succ

/-- An event's cells, in a row. -/
def Ev.row (e : Ev) : Array Value := #[.int .i64 e.kind, .int .i64 e.sess, .int .i64 e.key, .int .i64 e.val]
/-- What a Parse hands back. -/
def ParseOut (r : Ev × Int) (w : World) (e : Ending) (w' : World) : Prop := e = .returned (.tuple #[.agg #[.int .i64 r.1.kind, .int .i64 r.1.sess, .int .i64 r.1.key, .int .i64 r.1.val], .int .i64 r.2]) ∧ Below w.heap.size w w'
theorem results_ev {fn : Func} {t u : Tmp} (h : fn.results = #[.cell t 51, .tmp u]) {tmps : Array Value} {w : World} {g : Nat} {cs : Array Value} (hp : tmps.getD t undef = .pointer (some ⟨g, 0, none⟩))
    (hb : Blk w g 51 cs) (hs : cs.size = 4) : (results fn tmps).run Tryd.prog w = .ok (.tuple #[.agg cs, tmps.getD u undef]) w := by
  have hl := run_loadVar_row (P := Tryd.prog) w g 51 51 cs (0, 0) _ hb Tryd.underlying51 rfl (by rw [hs]; kernel_rfl)
  have hp' : tmps[t]?.getD undef = .pointer (some ⟨g, 0, none⟩) := by simpa using hp
  unfold results
  simp [h, hp', asAddr, hl]

theorem blk_fill4 {w : World} {g : Nat} {t : TypeId} {a b c d : Value} (h : Blk w g t #[a, b, c, d]) (x y z u : Value) :
    Blk ((((w.setCell ⟨g, 0, none⟩ x).setCell ⟨g, 1, none⟩ y).setCell ⟨g, 2, none⟩ z).setCell ⟨g, 3, none⟩ u) g t #[x, y, z, u] := (((h.set_ 0 x).set_ 1 y).set_ 2 z).set_ 3 u
theorem below_fill4 {B g : Nat} {a w : World} (h : Below B a w) (hg : B ≤ g) (x y z u : Value) :
    Below B a ((((w.setCell ⟨g, 0, none⟩ x).setCell ⟨g, 1, none⟩ y).setCell ⟨g, 2, none⟩ z).setCell ⟨g, 3, none⟩ u) := (((h.setCell hg _).setCell hg _).setCell hg _).setCell hg _
end Go.Proofs.YtphcebgpllecjaaDoor

namespace Go.Proofs.YtphcebgpllecjaaDoor
open Go.RowKit Go.Inq
set_option maxHeartbeats 1000000
attribute [local go_sem ↓] Go.wp_at_zero Go.wp_at_succ
end Go.Proofs.YtphcebgpllecjaaDoor

namespace Go.Proofs.YtphcebgpllecjaaDoor
open Go.RowKit Go.Inq
set_option maxHeartbeats 1000000
attribute [local go_sem ↓] Go.wp_at_zero Go.wp_at_succ
theorem infoE : (Tryd.prog.info? 51).map (fun i => (i.zero, i.size, i.bytes)) = some (some (.agg #[.int .i64 0, .int .i64 0, .int .i64 0, .int .i64 0]), 4, 32) := by kernel_rfl
theorem encE_one : ∀ (x : Ev), ∀ u ∈ x.enc, u.oneCell' = true := by
  intro x u hu
  unfold Ev.enc at hu
  simp at hu
  rcases hu with rfl | rfl | rfl | rfl <;> rfl
theorem EvS.form {w : World} {K : Nat → Prop} {v : Value} {l : List Ev} (h : EvS w K v l) : ∃ A c, v = .slice A l.length c := by
  obtain ⟨A, c, hv, _⟩ := SlR.len h
  exact ⟨A, c, hv⟩
theorem EvS.nil (w : World) (K : Nat → Prop) (A : Option Addr) (c : Nat) : EvS w K (.slice A 0 c) [] := SlR.nil _ _ _ _ _ _

/-- What a Parse of layer 4 hands back: a row of events, of its own, a place, and an error. -/
def EvOut (r : List Ev × Int × Int) (w : World) (e : Ending) (w' : World) : Prop :=
  ∃ v, e = .returned (.tuple #[v, .int .i64 r.2.1, .int .i64 r.2.2]) ∧ EvS w' (fun b => w.heap.size ≤ b ∧ b < w'.heap.size) v r.1 ∧ Below w.heap.size w w'
theorem EvOut.open {r : List Ev × Int × Int} {w : World} {e : Ending} {w' : World} (h : EvOut r w e w') :
    ∃ A c, e = .returned (.tuple #[.slice A r.1.length c, .int .i64 r.2.1, .int .i64 r.2.2]) ∧ EvS w' (Old w') (.slice A r.1.length c) r.1 ∧ Below w.heap.size w w' := by
  obtain ⟨v, he, hv, hb⟩ := h
  obtain ⟨A, c, rfl⟩ := EvS.form hv
  exact ⟨A, c, he, EvS.fit hv (fun b hb => hb.2), hb⟩

end Go.Proofs.YtphcebgpllecjaaDoor
