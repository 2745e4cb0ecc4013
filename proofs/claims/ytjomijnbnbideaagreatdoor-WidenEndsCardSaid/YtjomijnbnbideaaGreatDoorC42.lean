/-
  Walks: layer 20's reference: whether an order shows that a history is serializable; whether some order does.
-/
import Derived.Test.YtjomijnbnbideaaGreatDoorC41
import Derived.Test.YtjomijnbnbideaaGreatDoorC28
import Derived.Test.YtjomijnbnbideaaGreatDoorC05
import Derived.Test.YtjomijnbnbideaaGreatDoorC37
set_option linter.unusedVariables false
set_option linter.unusedSimpArgs false
namespace Go.Proofs.YtjomijnbnbideaaGreatDoor
open Go.RowKit Go.Inq
set_option maxHeartbeats 8000000
attribute [local go_sem ↓] Go.wp_at_zero Go.wp_at_succ

theorem TakS.at_ {w : World} {K : Nat → Prop} {A : Option Addr} {n c : Nat} {l : List (List It)} (h : SlR 1 TakR w K (.slice A n c) l) {i : Nat} (hi : i < l.length) :
    ∃ b off A' c', A = some ⟨b, off, none⟩ ∧ K b ∧ w.cell? ⟨b, off + i, none⟩ = some (.slice A' l[i].length c') ∧ ItS w K (.slice A' l[i].length c') l[i] := by
  obtain ⟨b, off, cs, hA, hK, _, ⟨v, hcs, hv⟩, hc⟩ := SlR.at_ h hi
  obtain ⟨A', c', rfl⟩ := SlR.form hv
  subst hcs
  have := hc 0 _ rfl
  rw [Nat.mul_one, Nat.add_zero] at this
  exact ⟨b, off, A', c', hA, hK, this, hv⟩
theorem readsB_no {H : List Txn} {π : List Int} {t : Nat} (ht : t < H.length) (h : decide (H[t].reads = playL H π t) = false) : readsB H π = false := by
  unfold readsB
  rw [List.all_eq_false]
  exact ⟨t, List.mem_range.2 ht, by rw [txnAt_of ht, h]; decide⟩
theorem readsB_yes {H : List Txn} {π : List Int} (h : ∀ t (ht : t < H.length), decide (H[t].reads = playL H π t) = true) : readsB H π = true := by
  unfold readsB
  rw [List.all_eq_true]
  intro t ht
  have ht := List.mem_range.1 ht
  rw [txnAt_of ht]
  exact h t ht
set_option maxRecDepth 100000 in
theorem rcheck20_any (A : Option Addr) (c : Nat) (H : List Txn) (Ap : Option Addr) (cp : Nat) (π : List Int) (w : World) (h : TxnS w (Old w) (.slice A H.length c) H) (hr : rightH H = true) (hn : SmallH H) (hP : IntS w (Old w) (.slice Ap π.length cp) π) (hpl : π.length ≤ 1000000) :
    Calls Tryz.prog 119 #[.agg #[.slice A H.length c], .slice Ap π.length cp] w fun e w' => e = .returned (.bool (checkB H π)) ∧ Below w.heap.size w w' := by
  have h32 : H.length ≤ 32 := ((rightH_iff H).1 hr).1
  obtain ⟨W0, hW0⟩ : ∃ W0, w.alloc (.cells #[.slice A H.length c] 24) = W0 := ⟨_, rfl⟩
  have hB := below_allocEq (Below.refl w.heap.size w) hW0 (Nat.le_refl _)
  have k0 := Blk.newEq hW0
  have hT := h.below hB
  have hI := hP.below hB
  have hrc := hide (right08_any A c H W0 hT hn)
  rw [hr] at hrc
  have c0 := k0.cell 0
  simp only [List.getElem?_toArray, List.getElem?_cons_zero, List.getElem?_cons_succ] at c0
  have hck : Hid (checkB H π = (permB π H.length && readsB H π && sessB H π)) := hide rfl
  have hrno := hide (fun t (ht : t < H.length) => readsB_no (π := π) ht)
  have hryes := hide (readsB_yes (H := H) (π := π))
  have hpy := hide (fun (W : World) (hb : Below w.heap.size w W) (hp : permB π H.length = true) => rplay20_any A c H Ap cp π W (h.below hb) hr hn (hP.below hb) hp)
  have hsr := hide (fun (W : World) (hb : Below w.heap.size w W) (hp : permB π H.length = true) => rsess20_any A c H Ap cp π W (h.below hb) (hP.below hb) (fun i hi => perm_bd hp hi) hpl)
  have htl := hide (fun W (hb : Below w.heap.size w W) => h.below hb)
  have hpc := hide (fun (W : World) (hb : Below w.heap.size w W) => rperm18_any Ap cp π H.length (Old W) W (hP.below hb) (by omega))
  have hpn : Hid (permB π H.length = true → (playTo H π H.length).length = H.length) := hide (fun _ => playTo_len _ _ _)
  have hpa := hide (fun t (ht : t < H.length) (h1 : t < (playTo H π H.length).length) => (by simp [playTo] : (playTo H π H.length)[t] = playL H π t))
  generalize checkB H π = r at *
  replace hr := hide hr
  clear h hP hT hI
  replace hpl := hide hpl
  go_enter Tryz.func119, Tryz.ntmps119
  go_wp2_with fail
  clear hW0 c0
  refine hrc.out.mono ?_
  rintro e w1 ⟨rfl, hb1⟩
  have k1 := k0.below hb1 k0.lt
  have hB1 := hB.trans (hb1.mono hB.size)
  clear hrc k0 hb1 hB
  have c0 := k1.cell 0
  simp only [List.getElem?_toArray, List.getElem?_cons_zero, List.getElem?_cons_succ] at c0
  have hpc1 := hide (hpc.out w1 hB1)
  obtain ⟨q, hq⟩ : ∃ q, permB π H.length = q := ⟨_, rfl⟩
  rw [hq] at hpc1 hck hpy hsr hpn
  replace hq := hide hq
  go_wp2_with fail
  refine hpc1.out.mono ?_
  rintro e w1' ⟨rfl, rfl⟩
  clear hpc1 hpc
  cases q with
  | false =>
    have hr2 : r = false := by rw [hck.out]; rfl
    subst hr2
    clear hck hpy hsr hpn
    go_wp2
    go_ret
    exact ⟨rfl, hB1⟩
  | true =>
    have hpy1 := hide (hpy.out w1 hB1 (by simp))
    go_wp2_with fail
    clear c0
    refine hpy1.out.mono ?_
    rintro e w2 ⟨v, rfl, hO, hb2⟩
    have k2 := k1.below hb2 k1.lt
    have hB2 := hB1.trans (hb2.mono hB1.size)
    have hS := hide (OwnR.slOld TakR.stab hO)
    obtain ⟨Av, cv, rfl⟩ := hO.form
    rw [hpn.out (by simp)] at hS ⊢
    clear hpy hpy1 hO k1
    go_wp2_with fail
    go_loopw [8] (fun s8 wr => ∃ t : Nat, t ≤ H.length ∧ s8 = .int .i64 t ∧ Hid (∀ t', t' < t → ∀ (ht : t' < H.length), decide (H[t'].reads = playL H π t') = true) ∧ Below w2.heap.size w2 wr) (fun s8 _ => H.length - (intOf s8).toNat)
    case atStart => exact ⟨0, Nat.zero_le _, by go_num, hide (fun t' ht => absurd ht (by omega)), Below.refl _ _⟩
    case round =>
      obtain ⟨t, ht, rfl, hall, hbt⟩ := hrel
      have ht1 : (0 : Int) ≤ (t : Int) := Int.natCast_nonneg _
      have k3 := k2.below hbt k2.lt
      have c0 := k3.cell 0
      simp only [List.getElem?_toArray, List.getElem?_cons_zero, List.getElem?_cons_succ] at c0
      have hBt := hB2.trans (hbt.mono hB2.size)
      by_cases hlt : t < H.length
      · have ht2 : (t : Int) < (H.length : Int) := by omega
        have hpt : t < (playTo H π H.length).length := by rw [hpn.out (by simp)]; exact hlt
        have hSt := hide (SlR.keep TakR.stab hS.out (Agree.below hbt fun b h => h) (K' := Old wr) (fun b h => Nat.lt_of_lt_of_le h hbt.size))
        obtain ⟨bp, op, Ap', cp', rfl, -, x0, hIt⟩ := TakS.at_ hSt.out hpt
        rw [hpa.out t hlt hpt] at x0 hIt
        obtain ⟨bt, ot, Aw, cw, Ar, cr, rfl, -, d0, d1, d2, -, hrd⟩ := TxnS.at_ (htl.out wr hBt) hlt
        have hrl : H[t].reads.length ≤ 1000000 := (hn.2 _ (List.getElem_mem hlt)).2
        have hpll : (playL H π t).length ≤ 1000000 := by unfold playL; rw [List.length_map, txnAt_of hlt]; exact hrl
        have hno := hide (hrno.out t hlt)
        have hnx := hide (fun (g : decide (H[t].reads = playL H π t) = true) => (fun t' (ht' : t' < t + 1) (h2 : t' < H.length) => (by
          by_cases e : t' = t
          · subst e; exact g
          · exact hall.out t' (by omega) h2 : decide (H[t'].reads = playL H π t') = true)))
        have hct := hide (rtakes20_any Ar Ap' cr cp' H[t].reads (playL H π t) wr.drew hrd hIt hrl hpll)
        generalize decide (H[t].reads = playL H π t) = cb at *
        generalize playL H π t = L2 at *
        generalize H[t].reads = L1 at *
        clear hIt hrd hrl hpll
        go_wp2_with fail
        refine wp_region_still_tail 10 (by kernel_rfl) (by kernel_rfl) ?_
        simp only [List.take_succ_cons, List.take_zero, List.drop_succ_cons, List.drop_zero]
        repeat still_step
        refine wpStill_nil ?_
        go_wp2_with fail
        refine hct.out.mono ?_
        rintro e w3 ⟨rfl, hb3⟩
        have hb4 := (below_drew hbt).trans (hb3.mono hbt.size)
        clear hct c0 d0 d1 d2 x0
        cases cb with
        | true =>
          have hn2 := hide (hnx.out rfl)
          clear hnx hno
          go_wp2
          go_roundw
          case rel => exact ⟨t + 1, by omega, by go_num, hn2, hb4⟩
          case measure => simp [intOf]; omega
        | false =>
          have hr2 : r = false := by rw [hck.out, hno.out rfl]; rfl
          subst hr2
          clear hnx hno hck hrno hryes hpa
          go_wp2
          go_ret
          exact ⟨rfl, hB2.trans (hb4.mono hB2.size)⟩
      · obtain rfl : t = H.length := by omega
        have hr2 : Hid (r = sessB H π) := hide (by rw [hck.out, hryes.out (fun t ht => hall.out t ht ht)]; rfl)
        have hsr2 := hide (hsr.out wr hBt (by simp))
        rw [← hr2.out] at hsr2
        clear hall hryes hrno hck hr2 hpa
        go_wp2_with fail
        refine hsr2.out.mono ?_
        rintro e w3 ⟨rfl, hb3⟩
        go_wp2
        go_ret
        exact ⟨rfl, hBt.trans (hb3.mono hBt.size)⟩
end Go.Proofs.YtjomijnbnbideaaGreatDoor

namespace Go.Proofs.YtjomijnbnbideaaGreatDoor
open Go.RowKit Go.Inq
set_option maxHeartbeats 8000000
attribute [local go_sem ↓] Go.wp_at_zero Go.wp_at_succ

def tryB (H : List Txn) (d : Nat) (l : List Int) (t : Nat) : Bool := !l.contains (t : Int) && nextB H d (l ++ [(t : Int)])
theorem nextB_no {H : List Txn} {d : Nat} {l : List Int} (h : ∀ t, t < H.length → tryB H d l t = false) : nextB H (d + 1) l = false := by
  show (List.range H.length).any _ = false
  rw [List.any_eq_false]
  intro t ht
  have := h t (List.mem_range.1 ht)
  unfold tryB at this
  rw [this]; decide
theorem nextB_yes {H : List Txn} {d : Nat} {l : List Int} {t : Nat} (ht : t < H.length) (h : tryB H d l t = true) : nextB H (d + 1) l = true := by
  show (List.range H.length).any _ = true
  rw [List.any_eq_true]
  exact ⟨t, List.mem_range.2 ht, h⟩
theorem contains_snoc {l : List Int} {i : Nat} (hi : i < l.length) (t : Int) : (l.take (i + 1)).contains t = ((l.take i).contains t || l[i] == t) := by
  rw [take_snoc' hi, List.contains_append]
  congr 1
  rw [List.contains_cons, List.contains_nil, Bool.or_false, Bool.eq_iff_iff, beq_iff_eq, beq_iff_eq]
  exact eq_comm
set_option maxRecDepth 100000 in
theorem rnext20_any (A : Option Addr) (c : Nat) (H : List Txn) (hr : rightH H = true) (hn : SmallH H) : ∀ (d : Nat) (l : List Int) (Al : Option Addr) (cl : Nat) (w : World), TxnS w (Old w) (.slice A H.length c) H → IntS w (Old w) (.slice Al l.length cl) l → l.length + d = H.length →
    Calls Tryz.prog 63 #[.agg #[.slice A H.length c], .slice Al l.length cl] w fun e w' => e = .returned (.bool (nextB H d l)) ∧ Below w.heap.size w w' := by
  obtain ⟨ii, hii, hz1, hz2, hz3⟩ := info_parts infoI10
  have h32 : H.length ≤ 32 := ((rightH_iff H).1 hr).1
  intro d
  induction d with
  | zero => ?_
  | succ d ih => ?_
  all_goals
    intro l Al cl w h hP hlen
    obtain ⟨W0, hW0⟩ : ∃ W0, w.alloc (.cells #[.slice A H.length c] 24) = W0 := ⟨_, rfl⟩
    have hB := below_allocEq (Below.refl w.heap.size w) hW0 (Nat.le_refl _)
    have k0 := Blk.newEq hW0
    have hT := hide (h.below hB)
    have hI := hide (hP.below hB)
    have c0 := k0.cell 0
    simp only [List.getElem?_toArray, List.getElem?_cons_zero, List.getElem?_cons_succ] at c0
  · have hck := hide (rcheck20_any A c H Al cl l W0 hT.out hr hn hI.out (by omega))
    have hq : Hid (nextB H 0 l = checkB H l) := hide rfl
    rw [hq.out]
    generalize checkB H l = r at *
    have hle : ((l.length : Int) == (H.length : Int)) = true := by simp; omega
    clear h hP hT hI hlen hq
    go_enter Tryz.func63, Tryz.ntmps63
    go_wp2_with fail
    clear hW0 c0
    refine hck.out.mono ?_
    rintro e w1 ⟨rfl, hb1⟩
    go_wp2
    go_ret
    exact ⟨rfl, hB.trans (hb1.mono hB.size)⟩
  · have hno := hide (nextB_no (H := H) (d := d) (l := l))
    have hyes := hide (fun t (ht : t < H.length) => nextB_yes (d := d) (l := l) ht)
    generalize nextB H (d + 1) l = r at *
    have hle : ((l.length : Int) == (H.length : Int)) = false := by simp; omega
    have hll : l.length < 32 := by omega
    replace hlen := hide hlen
    replace ih := hide ih
    replace hr := hide hr
    clear h hP
    go_enter Tryz.func63, Tryz.ntmps63
    go_wp2_with fail
    clear hW0 c0 hle
    go_loopw [6] (fun s6 wr => ∃ t : Nat, t ≤ H.length ∧ s6 = .int .i64 t ∧ Hid (∀ t', t' < t → tryB H d l t' = false) ∧ Below W0.heap.size W0 wr) (fun s6 _ => H.length - (intOf s6).toNat)
    case atStart => exact ⟨0, Nat.zero_le _, by go_num, hide (fun t' ht => absurd ht (by omega)), Below.refl _ _⟩
    case round =>
      obtain ⟨Wo, rfl⟩ : ∃ Wo, Wo = wr := ⟨_, rfl⟩
      obtain ⟨t, ht, rfl, hall, hbt⟩ := hrel
      have ht1 : (0 : Int) ≤ (t : Int) := Int.natCast_nonneg _
      have k1 := k0.below hbt k0.lt
      have c0 := k1.cell 0
      simp only [List.getElem?_toArray, List.getElem?_cons_zero, List.getElem?_cons_succ] at c0
      by_cases hlt : t < H.length
      · have ht2 : (t : Int) < (H.length : Int) := by omega
        have hnx := hide (fun (g : tryB H d l t = false) => (fun t' (ht' : t' < t + 1) => (by
          by_cases e : t' = t
          · subst e; exact g
          · exact hall.out t' (by omega) : tryB H d l t' = false)))
        have hye := hide (hyes.out t hlt)
        have htr : Hid (tryB H d l t = (!l.contains (t : Int) && nextB H d (l ++ [(t : Int)]))) := hide rfl
        go_wp2_with fail
        clear c0
        go_loop [7, 8] (fun s7 s8 => ∃ i : Nat, i ≤ l.length ∧ s8 = .int .i64 i ∧ s7 = .bool ((l.take i).contains (t : Int))) (fun _ s8 => l.length - (intOf s8).toNat)
        case atStart => exact ⟨0, Nat.zero_le _, by go_num, rfl⟩
        case round =>
          obtain ⟨i, hi, rfl, rfl⟩ := hrel
          have hi1 : (0 : Int) ≤ (i : Int) := Int.natCast_nonneg _
          by_cases hil : i < l.length
          · have hi2 : (i : Int) < (l.length : Int) := by omega
            obtain ⟨bp, op, rfl, -, x0⟩ := (hI.out.below hbt).at_ hil
            have hst := hide (contains_snoc hil (t : Int))
            generalize (l.take i).contains (t : Int) = q at *
            generalize l[i] = y at *
            have hil2 := hide hil
            cases q with
            | true =>
              have hst2 : Hid (true = (l.take (i + 1)).contains (t : Int)) := hide (by rw [hst.out]; rfl)
              clear hst
              go_wp2
              go_round
              case rel => exact ⟨i + 1, hil2.out, by go_num, by rw [← hst2.out]⟩
              case measure => have := hil2.out; simp [intOf]; omega
            | false =>
              obtain ⟨p, hp⟩ : ∃ p, (y == (t : Int)) = p := ⟨_, rfl⟩
              have hst2 : Hid (p = (l.take (i + 1)).contains (t : Int)) := hide (by rw [hst.out, hp]; rfl)
              clear hst
              go_wp2
              go_round
              case rel => exact ⟨i + 1, hil2.out, by go_num, by rw [← hst2.out]⟩
              case measure => have := hil2.out; simp [intOf]; omega
          · obtain rfl : i = l.length := by omega
            rw [List.take_length]
            obtain ⟨q, hq⟩ : ∃ q, l.contains (t : Int) = q := ⟨_, rfl⟩
            rw [hq] at htr ⊢
            replace hq := hide hq
            cases q with
            | true =>
              have hn2 := hide (hnx.out (by rw [htr.out]; rfl))
              clear hnx hye htr
              go_wp2
              go_roundw
              case rel => exact ⟨t + 1, by omega, by go_num, hn2, hbt⟩
              case measure => simp [intOf]; omega
            | false =>
              have hnil := hide (World.ownsRow_nil Wo Wo.heap.size 3 1)
              have hIo := hide (hI.out.below hbt)
              have h63 : 0 + l.length ≤ maxLen := by unfold maxLen; omega
              have hbb : (0 + l.length) * 8 ≤ 140737488355328 := by omega
              have h63b : l.length + 1 ≤ maxLen := by unfold maxLen; omega
              have hbb2 : (l.length + 1) * 8 ≤ 140737488355328 := by omega
              go_upto_region 14 with fail
              go_cut [9] (fun s9 wz => OwnI wz Wo.heap.size s9 l ∧ Below Wo.heap.size Wo wz)
              case first =>
                go_wp2_with (at_builtin; go_loud (refine wpList_append_flat (enc := Go.Inq.encI) rfl (.tmp 44) (.tmp 45) 27 rfl Wo.heap.size 3 ii _ 1 8 Tryz.underlying27 hii hz1 hz2 hz3 rfl (by decide) (.slice none 0 0) (Old Wo) ([] : List Int) rfl hnil.out (fun _ => rfl) _ l rfl hIo.out Go.Inq.encI_one h63 hbb (Nat.le_refl _) ?_); intro v6 w6 hown6 hg6 hat6)
                go_meet
                exact ⟨hown6, below_grown (Below.refl _ _) hg6 (Nat.le_refl _) (fun k hk => by simp [Value.ownBlock] at hk)⟩
              case rest =>
                obtain ⟨hO6, hb6⟩ := hcut
                obtain ⟨X6, hX6⟩ : ∃ X6, X6 = wc := ⟨_, rfl⟩
                subst hX6
                obtain ⟨A6, c6, rfl⟩ := OwnI.form hO6
                have hs6 := hb6.size
                replace hO6 := hide hO6
                clear hIo hnil
                go_upto_region 15 with fail
                go_cut [9] (fun s9 wz => OwnI wz Wo.heap.size s9 (l ++ [(t : Int)]) ∧ Below Wo.heap.size Wo wz)
                case first =>
                  go_wp2_with (at_builtin; go_loud (refine wpList_push (enc := Go.Inq.encI) rfl (.tmp 47) (.tmp 49) 27 rfl Wo.heap.size 3 ii _ 1 8 Tryz.underlying27 hii hz1 hz2 hz3 rfl (by decide) (.slice A6 l.length c6) l rfl hO6.out (fun _ => rfl) (t : Int) _ rfl rfl Go.Inq.encI_one h63b hbb2 hs6 Wo Wo.heap.size (Nat.le_refl _) hb6 ?_); intro v7 w7 hown7 hg7 hbw7 hat7)
                  go_meet
                  exact ⟨hown7, hbw7⟩
                case rest =>
                  clear hb6 hO6 hs6
                  obtain ⟨hO7, hb7⟩ := hcut
                  obtain ⟨X7, hX7⟩ : ∃ X7, X7 = wc := ⟨_, rfl⟩
                  subst hX7
                  obtain ⟨A7, c7, rfl⟩ := OwnI.form hO7
                  have hbw := hbt.trans (hb7.mono hbt.size)
                  have hI7 := hide (OwnI.sl (K := Old X7) hO7 (fun g _ h => h))
                  have k7 := k1.below hb7 k1.lt
                  have c0 := k7.cell 0
                  simp only [List.getElem?_toArray, List.getElem?_cons_zero, List.getElem?_cons_succ] at c0
                  have hcall := hide (ih.out (l ++ [(t : Int)]) A7 c7 X7 (hT.out.below hbw) hI7.out (by have := hlen.out; rw [List.length_append, List.length_singleton]; omega))
                  obtain ⟨q, hq⟩ : ∃ q, nextB H d (l ++ [(t : Int)]) = q := ⟨_, rfl⟩
                  rw [hq] at hcall htr
                  replace hq := hide hq
                  generalize (l ++ [(t : Int)]).length = m at *
                  clear hO7 hI7
                  go_wp2_with fail
                  clear c0
                  refine hcall.out.mono ?_
                  rintro e w8 ⟨rfl, hb8⟩
                  have hb9 := hbw.trans (hb8.mono hbw.size)
                  clear hcall
                  cases q with
                  | true =>
                    have hr2 := hye.out (by rw [htr.out]; rfl)
                    subst hr2
                    clear hye htr hnx hno hyes
                    go_wp2
                    go_ret
                    exact ⟨rfl, hB.trans (hb9.mono hB.size)⟩
                  | false =>
                    have hn2 := hide (hnx.out (by rw [htr.out]; rfl))
                    clear hnx hye htr
                    go_wp2
                    go_roundw
                    case rel => exact ⟨t + 1, by omega, by go_num, hn2, hb9⟩
                    case measure => simp [intOf]; omega
      · obtain rfl : t = H.length := by omega
        have hr2 := hno.out hall.out
        subst hr2
        clear hall hyes hno
        go_wp2
        go_ret
        exact ⟨rfl, hB.trans (hbt.mono hB.size)⟩
end Go.Proofs.YtjomijnbnbideaaGreatDoor

namespace Go.Proofs.YtjomijnbnbideaaGreatDoor
open Go.RowKit Go.Inq
set_option maxHeartbeats 8000000
attribute [local go_sem ↓] Go.wp_at_zero Go.wp_at_succ

set_option maxRecDepth 100000 in
theorem rwriters09_bad (A : Option Addr) (c : Nat) (H : List Txn) (key : Int) (w : World) (h : TxnS w (Old w) (.slice A H.length c) H) (hr : rightH H = false) (hn : LenH H) :
    Calls Tryz.prog 98 #[.agg #[.slice A H.length c], .int .i64 key] w fun e w' => e = .returned (.slice none 0 0) ∧ Below w.heap.size w w' := by
  obtain ⟨W0, hW0⟩ : ∃ W0, w.alloc (.cells #[.slice A H.length c] 24) = W0 := ⟨_, rfl⟩
  have hB := below_allocEq (Below.refl w.heap.size w) hW0 (Nat.le_refl _)
  have k0 := Blk.newEq hW0
  have hrc := hide (right08_big A c H W0 (h.below hB) hn)
  rw [hr] at hrc
  have c0 := k0.cell 0
  simp only [List.getElem?_toArray, List.getElem?_cons_zero, List.getElem?_cons_succ] at c0
  replace hr := hide hr
  replace hn := hide hn
  clear h
  go_enter Tryz.func98, Tryz.ntmps98
  go_wp2_with fail
  clear hW0 c0
  refine hrc.out.mono ?_
  rintro e w1 ⟨rfl, hb1⟩
  have k1 := k0.below hb1 k0.lt
  have c0 := k1.cell 0
  simp only [List.getElem?_toArray, List.getElem?_cons_zero, List.getElem?_cons_succ] at c0
  clear hrc
  go_wp2_with fail
  go_loopw [5, 7] (fun s5 s7 wr => wr = w1 ∧ s7 = .int .i64 0 ∧ s5 = .slice none 0 0) (fun _ s7 _ => 0)
  case atStart => exact ⟨rfl, rfl, rfl⟩
  case round =>
    obtain ⟨rfl, rfl, rfl⟩ := hrel
    go_wp2
    go_ret
    exact ⟨rfl, hB.trans (hb1.mono hB.size)⟩
set_option maxRecDepth 100000 in
theorem rpairs09_bad (A : Option Addr) (c : Nat) (H : List Txn) (w : World) (h : TxnS w (Old w) (.slice A H.length c) H) (hr : rightH H = false) (hn : LenH H) :
    Calls Tryz.prog 38 #[.agg #[.slice A H.length c]] w fun e w' => e = .returned (.slice none 0 0) ∧ Below w.heap.size w w' := by
  obtain ⟨W0, hW0⟩ : ∃ W0, w.alloc (.cells #[.slice A H.length c] 24) = W0 := ⟨_, rfl⟩
  have hB := below_allocEq (Below.refl w.heap.size w) hW0 (Nat.le_refl _)
  have k0 := Blk.newEq hW0
  have hT := hide (h.below hB)
  replace hr := hide hr
  replace hn := hide hn
  clear h
  go_enter Tryz.func38, Tryz.ntmps38
  go_wp2_with fail
  clear hW0
  go_loopw [3, 4] (fun s3 s4 wr => ∃ k : Nat, k ≤ 16 ∧ s4 = .int .i64 k ∧ s3 = .slice none 0 0 ∧ Below W0.heap.size W0 wr) (fun _ s4 _ => 16 - (intOf s4).toNat)
  case atStart => exact ⟨0, Nat.zero_le _, by go_num, rfl, Below.refl _ _⟩
  case round =>
    obtain ⟨k, hk, rfl, rfl, hb⟩ := hrel
    have hk1 : (0 : Int) ≤ (k : Int) := Int.natCast_nonneg _
    by_cases hlt : k < 16
    · have hk2 : (k : Int) < 16 := by omega
      have k1 := k0.below hb k0.lt
      have c0 := k1.cell 0
      simp only [List.getElem?_toArray, List.getElem?_cons_zero, List.getElem?_cons_succ] at c0
      have hcw := hide (rwriters09_bad A c H (k : Int) wr (hT.out.below hb) hr.out hn.out)
      obtain ⟨Wo, rfl⟩ : ∃ Wo, Wo = wr := ⟨_, rfl⟩
      go_wp2_with fail
      clear c0
      refine hcw.out.mono ?_
      rintro e wl ⟨rfl, hbl⟩
      have hb2 := hb.trans (hbl.mono hb.size)
      go_wp2_with fail
      go_loopw [3, 6] (fun s3 s6 wq => wq = wl ∧ s6 = .int .i64 0 ∧ s3 = .slice none 0 0) (fun _ s6 _ => 0)
      case atStart => exact ⟨rfl, rfl, rfl⟩
      case round =>
        obtain ⟨rfl, rfl, rfl⟩ := hrel
        go_wp2
        go_roundw
        case rel => exact ⟨k + 1, by omega, by go_num, rfl, hb2⟩
        case measure => simp [intOf]; omega
    · obtain rfl : k = 16 := by omega
      go_wp2
      go_ret
      exact ⟨rfl, hB.trans (hb.mono hB.size)⟩
set_option maxRecDepth 100000 in
theorem rhas21_any (A : Option Addr) (c : Nat) (H : List Txn) (level : Int) (w : World) (h : TxnS w (Old w) (.slice A H.length c) H) (hr : rightH H = true) (hn : SmallH H) :
    Calls Tryz.prog 18 #[.agg #[.slice A H.length c], .int .i64 level] w fun e w' => e = .returned (.bool (hasB H level)) ∧ Below w.heap.size w w' := by
  obtain ⟨W0, hW0⟩ : ∃ W0, w.alloc (.cells #[.slice A H.length c] 24) = W0 := ⟨_, rfl⟩
  have hB := below_allocEq (Below.refl w.heap.size w) hW0 (Nat.le_refl _)
  have k0 := Blk.newEq hW0
  have hT := hide (h.below hB)
  have hT2 := hide (TxnS.keep (w' := W0.drew) hT.out (Agree.drew _ _) (fun b h => h))
  have hpc := hide (rpairs09_any A c H W0.drew hT2.out hr hn)
  have hsm := hide (fun Ap cp W (hT : TxnS W (Old W) (.slice A H.length c) H) (hP : ChoS W (Old W) (.slice Ap (pairsL H).length cp) (pairsL H)) => rsome21_any A c H hr hn level (pairsL H) (by have := pairsL_len hr; omega) (fun p hp => pairs_one hp) (pairsL H).length [] none 0 Ap cp W hT hP (ChoS.nil _ _ _ _) (by simp) (by simp))
  have hq : Hid (someB H level ((pairsL H).drop ([] : List Cho).length) [] = hasB H level) := hide rfl
  rw [hq.out] at hsm
  generalize hasB H level = r at *
  have c0 := k0.cell 0
  simp only [List.getElem?_toArray, List.getElem?_cons_zero, List.getElem?_cons_succ] at c0
  replace hr := hide hr
  replace hn := hide hn
  clear h hq
  go_enter Tryz.func18, Tryz.ntmps18
  go_upto_region 1 with fail
  clear hW0
  have k0' := k0.drew
  have hbd := below_drew hB
  clear k0 hB hT
  refine wp_region_alts [1, 2] [0, 3, 4, 5] [[0, 3, 4, 5], [3, 0, 4, 5]] (by kernel_rfl) (by kernel_rfl) (fun _ _ d _ _ h => by cases d <;> exact h) ?_
  simp only [List.filterMap_cons, List.filterMap_nil, List.getElem?_cons_zero, List.getElem?_cons_succ]
  repeat still_step
  refine wpStill_nil ?_
  intro i hi
  simp only [List.filterMap_cons, List.head?_cons, List.filterMap_nil, List.mem_cons, List.not_mem_nil, or_false, or_self] at hi
  obtain rfl | rfl : i = 0 ∨ i = 3 := by omega
  · refine wpOp_list rfl ?_
    simp only [tailsOf, List.filterMap_cons, List.filterMap_nil, if_true, if_false, reduceIte, Nat.reduceEqDiff, List.length_cons, List.length_nil, Nat.reduceAdd]
    clear hi
    go_wp2_with fail
    intro iq hiq
    have hiq : iq = 3 := by
      simp only [List.filterMap_cons, List.head?_cons, List.filterMap_nil, List.mem_cons, List.not_mem_nil, or_false, or_self] at hiq
      omega
    cases hiq
    refine wpOp_list rfl ?_
    simp only [tailsOf, List.filterMap_cons, List.filterMap_nil, if_true, if_false, reduceIte, Nat.reduceEqDiff, List.length_cons, List.length_nil, Nat.reduceAdd]
    go_wp2_with fail
    refine hpc.out.mono ?_
    rintro e w1 ⟨v, rfl, hO, hb1⟩
    obtain ⟨Ap, cp, rfl⟩ := OwnC.form hO
    have hb2 := hbd.trans (hb1.mono hbd.size)
    have hs2 := hide (hsm.out Ap cp w1 (hT2.out.below hb1) (OwnC.sl (K := Old w1) hO (fun g _ h => h)))
    clear hpc hsm hO c0
    go_wp2_with fail
    intro iq hiq
    have hiq : iq = 4 := by
      simp only [List.filterMap_cons, List.head?_cons, List.filterMap_nil, List.mem_cons, List.not_mem_nil, or_false, or_self] at hiq
      omega
    cases hiq
    refine wpOp_list rfl ?_
    simp only [tailsOf, List.filterMap_cons, List.filterMap_nil, if_true, if_false, reduceIte, Nat.reduceEqDiff, List.length_cons, List.length_nil, Nat.reduceAdd]
    go_wp2_with fail
    refine hs2.out.mono ?_
    rintro e w2 ⟨rfl, hb3⟩
    go_wp2_with fail
    refine wpAlt_one _ _ _ _ rfl ?_
    simp only [List.filterMap_cons, List.filterMap_nil, List.getElem?_toArray, List.getElem?_cons_zero, List.getElem?_cons_succ]
    go_wp2
    go_ret
    exact ⟨rfl, hb2.trans (hb3.mono hb2.size)⟩
  · refine wpOp_list rfl ?_
    simp only [tailsOf, List.filterMap_cons, List.filterMap_nil, if_true, if_false, reduceIte, Nat.reduceEqDiff, List.length_cons, List.length_nil, Nat.reduceAdd]
    clear hi
    go_wp2_with fail
    refine hpc.out.mono ?_
    rintro e w1 ⟨v, rfl, hO, hb1⟩
    obtain ⟨Ap, cp, rfl⟩ := OwnC.form hO
    have hb2 := hbd.trans (hb1.mono hbd.size)
    have hs2 := hide (hsm.out Ap cp w1 (hT2.out.below hb1) (OwnC.sl (K := Old w1) hO (fun g _ h => h)))
    clear hpc hsm hO c0
    go_wp2_with fail
    have k1 := k0'.below hb1 k0'.lt
    have c0 := k1.cell 0
    simp only [List.getElem?_toArray, List.getElem?_cons_zero, List.getElem?_cons_succ] at c0
    intro iq hiq
    have hiq : iq = 0 := by
      simp only [List.filterMap_cons, List.head?_cons, List.filterMap_nil, List.mem_cons, List.not_mem_nil, or_false, or_self] at hiq
      omega
    cases hiq
    refine wpOp_list rfl ?_
    simp only [tailsOf, List.filterMap_cons, List.filterMap_nil, if_true, if_false, reduceIte, Nat.reduceEqDiff, List.length_cons, List.length_nil, Nat.reduceAdd]
    go_wp2_with fail
    intro iq hiq
    have hiq : iq = 4 := by
      simp only [List.filterMap_cons, List.head?_cons, List.filterMap_nil, List.mem_cons, List.not_mem_nil, or_false, or_self] at hiq
      omega
    cases hiq
    refine wpOp_list rfl ?_
    simp only [tailsOf, List.filterMap_cons, List.filterMap_nil, if_true, if_false, reduceIte, Nat.reduceEqDiff, List.length_cons, List.length_nil, Nat.reduceAdd]
    go_wp2_with fail
    refine hs2.out.mono ?_
    rintro e w2 ⟨rfl, hb3⟩
    go_wp2_with fail
    refine wpAlt_one _ _ _ _ rfl ?_
    simp only [List.filterMap_cons, List.filterMap_nil, List.getElem?_toArray, List.getElem?_cons_zero, List.getElem?_cons_succ]
    go_wp2
    go_ret
    exact ⟨rfl, hb2.trans (hb3.mono hb2.size)⟩
set_option maxRecDepth 100000 in
theorem rhas20_any (A : Option Addr) (c : Nat) (H : List Txn) (w : World) (h : TxnS w (Old w) (.slice A H.length c) H) (hr : rightH H = true) (hn : SmallH H) :
    Calls Tryz.prog 19 #[.agg #[.slice A H.length c]] w fun e w' => e = .returned (.bool (serB H)) ∧ Below w.heap.size w w' := by
  obtain ⟨W0, hW0⟩ : ∃ W0, w.alloc (.cells #[.slice A H.length c] 24) = W0 := ⟨_, rfl⟩
  have hB := below_allocEq (Below.refl w.heap.size w) hW0 (Nat.le_refl _)
  have k0 := Blk.newEq hW0
  have hnx := hide (rnext20_any A c H hr hn H.length [] none 0 W0 (h.below hB) (IntS.nil _ _ _ _) (by simp))
  have hq : Hid (nextB H H.length [] = serB H) := hide rfl
  rw [hq.out] at hnx
  generalize serB H = r at *
  have c0 := k0.cell 0
  simp only [List.getElem?_toArray, List.getElem?_cons_zero, List.getElem?_cons_succ] at c0
  replace hr := hide hr
  replace hn := hide hn
  clear h hq
  go_enter Tryz.func19, Tryz.ntmps19
  go_wp2_with fail
  clear hW0 c0
  refine hnx.out.mono ?_
  rintro e w1 ⟨rfl, hb1⟩
  go_wp2
  go_ret
  exact ⟨rfl, hB.trans (hb1.mono hB.size)⟩
/-- Has a history few pairs, and few transactions? -/
def smallB (H : List Txn) (n m : Nat) : Bool := fewN n H && rightH H && decide ((pairsL H).length ≤ m)
set_option maxRecDepth 100000 in
theorem rsmall22_any (A : Option Addr) (c : Nat) (H : List Txn) (n m : Nat) (w : World) (h : TxnS w (Old w) (.slice A H.length c) H) (hn : LenH H) (hn4 : n ≤ 1000) (hm4 : m ≤ 1000) :
    Calls Tryz.prog 15 #[.agg #[.slice A H.length c], .int .i64 (n : Int), .int .i64 (m : Int)] w fun e w' => e = .returned (.bool (smallB H n m)) ∧ Below w.heap.size w w' := by
  obtain ⟨W0, hW0⟩ : ∃ W0, w.alloc (.cells #[.slice A H.length c] 24) = W0 := ⟨_, rfl⟩
  have hB := below_allocEq (Below.refl w.heap.size w) hW0 (Nat.le_refl _)
  have k0 := Blk.newEq hW0
  have hT := hide (h.below hB)
  have hfc := hide (few8n_any n A c H W0 hT.out hn.1 hn.2)
  have hrc := hide (fun W (hb : Below w.heap.size w W) => right08_big A c H W (h.below hb) hn)
  have hpb := hide (fun W (hb : Below w.heap.size w W) (hr : rightH H = false) => rpairs09_bad A c H W (h.below hb) hr hn)
  have hpc := hide (fun W (hb : Below w.heap.size w W) (hr : rightH H = true) => rpairs09_any A c H W (h.below hb) hr (right_small hr))
  have hpl := hide (fun (hr : rightH H = true) => pairsL_len hr)
  have hsm : Hid (smallB H n m = (fewN n H && rightH H && decide ((pairsL H).length ≤ m))) := hide rfl
  generalize smallB H n m = r at *
  generalize fewN n H = q1 at *
  generalize rightH H = q2 at *
  have c0 := k0.cell 0
  simp only [List.getElem?_toArray, List.getElem?_cons_zero, List.getElem?_cons_succ] at c0
  replace hn := hide hn
  clear h hT
  go_enter Tryz.func15, Tryz.ntmps15
  go_wp2_with fail
  clear hW0 c0
  refine hfc.out.mono ?_
  rintro e w1 ⟨rfl, hb1⟩
  have hb2 := hB.trans (hb1.mono hB.size)
  have k1 := k0.below hb1 k0.lt
  have c0 := k1.cell 0
  simp only [List.getElem?_toArray, List.getElem?_cons_zero, List.getElem?_cons_succ] at c0
  have hr1 := hide (hrc.out w1 hb2)
  clear hfc hrc hb1 k0 hB
  go_wp2_with fail
  clear c0
  refine hr1.out.mono ?_
  rintro e w2 ⟨rfl, hb3⟩
  have hb4 := hb2.trans (hb3.mono hb2.size)
  have k2 := k1.below hb3 k1.lt
  have c0 := k2.cell 0
  simp only [List.getElem?_toArray, List.getElem?_cons_zero, List.getElem?_cons_succ] at c0
  clear hr1 hb2 hb3 k1
  cases q2 with
  | false =>
    have hre : r = false := by rw [hsm.out]; simp
    subst hre
    have hp := hide (hpb.out w2 hb4 (by simp))
    clear hpb hpc hpl hsm
    go_wp2_with fail
    clear c0
    refine hp.out.mono ?_
    rintro e w3 ⟨rfl, hb5⟩
    cases q1
    all_goals
      go_wp2
      go_ret
      exact ⟨rfl, hb4.trans (hb5.mono hb4.size)⟩
  | true =>
    have hp := hide (hpc.out w2 hb4 (by simp))
    have hl := hide (hpl.out (by simp))
    generalize pairsL H = P at *
    clear hpb hpc hpl
    go_wp2_with fail
    clear c0
    refine hp.out.mono ?_
    rintro e w3 ⟨v, rfl, hO, hb5⟩
    obtain ⟨Ap, cp, rfl⟩ := OwnC.form hO
    clear hO hp
    cases q1 with
    | false =>
      have hre : r = false := by rw [hsm.out]; simp
      subst hre
      clear hsm
      go_wp2
      go_ret
      exact ⟨rfl, hb4.trans (hb5.mono hb4.size)⟩
    | true =>
      obtain ⟨q, hq⟩ : ∃ q, decide (P.length ≤ m) = q := ⟨_, rfl⟩
      have hq2 : decide ((P.length : Int) ≤ (m : Int)) = q := by rw [← hq]; simp
      have hre : r = q := by rw [hsm.out, hq]; simp
      subst hre
      clear hsm
      go_wp2
      go_ret
      exact ⟨rfl, hb4.trans (hb5.mono hb4.size)⟩
end Go.Proofs.YtjomijnbnbideaaGreatDoor
