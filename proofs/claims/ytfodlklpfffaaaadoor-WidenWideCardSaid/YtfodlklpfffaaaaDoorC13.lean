/-
  Walks: layer 17: who reads what was there at first, and who wrote over it; the past.
-/
import Derived.Test.YtfodlklpfffaaaaDoorC12
import Derived.Test.YtfodlklpfffaaaaDoorC06
import Derived.Test.YtfodlklpfffaaaaDoorC07
import Derived.Test.YtfodlklpfffaaaaDoorC10
set_option linter.unusedVariables false
set_option linter.unusedSimpArgs false
namespace Go.Proofs.YtfodlklpfffaaaaDoor
open Go.RowKit Go.Inq
set_option maxHeartbeats 4000000
attribute [local go_sem ↓] Go.wp_at_zero Go.wp_at_succ

/-- Some edges, but none that leads from a node to itself. -/
def neL (l : List (Nat × Nat)) : Edges := fun x y => decide (x ≠ y) && l.contains (x, y)
theorem neL_nil (x y : Nat) : noE x y = neL [] x y := by simp [noE, neL]
theorem neL_step (l : List (Nat × Nat)) (a b x y : Nat) : addE (neL l) (a : Int) (b : Int) x y = neL (l ++ [(a, b)]) x y := by
  unfold addE
  have hc : (l ++ [(a, b)]).contains (x, y) = (l.contains (x, y) || (decide (x = a) && decide (y = b))) := by
    rw [Bool.eq_iff_iff]; simp
  split
  · rename_i h
    simp only [orE, oneE, neL, Int.toNat_natCast, hc]
    by_cases e1 : x = a
    · by_cases e2 : y = b
      · have : x ≠ y := by omega
        simp [e1, e2, this]
        omega
      · simp [e2]
    · simp [e1]
  · rename_i h
    simp only [neL, hc]
    have hab : a = b := by omega
    by_cases e1 : x = a
    · by_cases e2 : y = b
      · have : x = y := by omega
        simp [this]
      · simp [e2]
    · simp [e1]
def iniR (wr : List Nat) (rd : List Nat) : List (Nat × Nat) := (rd.map fun a => wr.map fun b => (a, b)).flatten
def iniK (H : List Txn) (key : Int) : List (Nat × Nat) := iniR (wrsL H key) (rdsL H key (-1))
def iniTo (H : List Txn) (k : Nat) : List (Nat × Nat) := (((keysL H).take k).map (iniK H)).flatten
theorem iniTo_step {H : List Txn} {k : Nat} (h : k < (keysL H).length) : iniTo H (k + 1) = iniTo H k ++ iniK H (keysL H)[k] := by
  unfold iniTo
  rw [List.take_succ_eq_append_getElem h, List.map_append, List.flatten_append]; simp
theorem iniR_step (wr : List Nat) {rd : List Nat} {i : Nat} (h : i < rd.length) : iniR wr (rd.take (i + 1)) = iniR wr (rd.take i) ++ wr.map fun b => (rd[i], b) := by
  unfold iniR
  rw [List.take_succ_eq_append_getElem h, List.map_append, List.flatten_append]; simp
theorem iniR_mem {wr rd : List Nat} {a b : Nat} : (a, b) ∈ iniR wr rd ↔ a ∈ rd ∧ b ∈ wr := by
  unfold iniR
  rw [List.mem_flatten]
  constructor
  · rintro ⟨l, hl, h⟩
    obtain ⟨x, hx, rfl⟩ := List.mem_map.1 hl
    obtain ⟨y, hy, e⟩ := List.mem_map.1 h
    injection e with e1 e2
    subst e1 e2
    exact ⟨hx, hy⟩
  · rintro ⟨ha, hb⟩
    exact ⟨_, List.mem_map.2 ⟨a, ha, rfl⟩, List.mem_map.2 ⟨b, hb, rfl⟩⟩
theorem iniTo_all {H : List Txn} {x y : Nat} (hx : x < H.length) (hy : y < H.length) : neL (iniTo H (keysL H).length) x y = initE H x y := by
  unfold neL iniTo
  rw [List.take_length, Bool.eq_iff_iff, initE_iff hx hy, Bool.and_eq_true, decide_eq_true_iff, List.contains_iff_mem, List.mem_flatten]
  constructor
  · rintro ⟨h1, l, hl, h⟩
    obtain ⟨k, hk, rfl⟩ := List.mem_map.1 hl
    obtain ⟨h2, h3⟩ := iniR_mem.1 h
    exact ⟨h1, k, hk, h2, h3⟩
  · rintro ⟨h1, k, hk, h2, h3⟩
    exact ⟨h1, _, List.mem_map.2 ⟨k, hk, rfl⟩, iniR_mem.2 ⟨h2, h3⟩⟩
theorem rdsL_len {H : List Txn} (hn : SmallH H) (hr : rightH H = true) (key src : Int) : (rdsL H key src).length ≤ 32000000 := by
  rw [← selR_all]
  unfold selR
  rw [List.length_map]
  exact Nat.le_trans (List.length_filter_le _ _) (readsL_len hn hr)
set_option maxRecDepth 100000 in
theorem init1_any (A : Option Addr) (c : Nat) (H : List Txn) (hr : rightH H = true) (hn : SmallH H) (Bh Bg base : Nat) (K : Nat → Prop) (w : World) (hT : TxnS w K (.slice A H.length c) H) (hBh : Blk w Bh 24 #[.slice A H.length c]) (hK : ∀ b, K b → b < base) (hB : Bh < base) (hBg : base ≤ Bg) (hbox : BoxG w Bg base H.length noE) (hbw : base ≤ w.heap.size) :
    Calls Tryd.prog 62 #[.func (.func 68) #[] #[.pointer (some ⟨Bg, 0, none⟩)], .pointer (some ⟨Bh, 0, none⟩)] w fun e w' => e = .returned (.tuple #[]) ∧ BoxG w' Bg base H.length (initE H) ∧ w.grownBy w' (some Bg) := by
  have c0 := hBh.cell 0
  simp only [List.getElem?_toArray, List.getElem?_cons_zero, List.getElem?_cons_succ] at c0
  have h32 : H.length ≤ 32 := ((rightH_iff H).1 hr).1
  have hBl : Bg < w.heap.size := hbox.lt
  have hkw : Hid (∀ b, K b → b < w.heap.size) := hide fun b hb => by have := hK b hb; omega
  have hkg : Hid (∀ b, K b → b < Bg) := hide fun b hb => by have := hK b hb; omega
  replace hr := hide hr
  replace hn := hide hn
  have hTo := hT.fit (K' := Old w) (fun b hb => hkw.out b hb)
  replace hT := hide hT
  replace hbox := hide (hbox.congr fun a b _ _ => neL_nil a b)
  have hT0 : Hid (∀ w', w.grownBy w' (some Bg) → TxnS w' (Old w') (.slice A H.length c) H) := hide fun w' hg => TxnS.keep hT.out (Agree.ofGrown hg hkg.out (Nat.le_of_lt hBl)) (fun b hb => Nat.lt_of_lt_of_le (hkw.out b hb) hg.size)
  replace hK := hide hK
  go_enter Tryd.func62, Tryd.ntmps62
  go_wp2_with fail
  clear c0
  refine (keys9_any A c H _ hTo hn.out hr.out).mono ?_
  rintro e wk ⟨vk, rfl, hKO, hbk⟩
  obtain ⟨Ak, ck, rfl⟩ := hKO.form
  have hKS := hide (hKO.sl (K := fun b => w.heap.size ≤ b ∧ b < wk.heap.size) (fun g h1 h2 => ⟨h1, h2⟩))
  have hboxk := hbox.out.below hbk
  have hgk := grown_below hbk (r := some Bg) (Nat.le_refl _)
  have hk16 := keysL_16len hr.out
  have hstp := hide (fun k (hk : k < (keysL H).length) => iniTo_step hk)
  have hall := hide (fun x y (hx : x < H.length) (hy : y < H.length) => iniTo_all hx hy)
  clear hKO hbox hTo
  generalize hKL : keysL H = KL at *
  clear hKL
  go_wp2_with fail
  go_loopw [12] (fun s12 wr => ∃ k : Nat, k ≤ KL.length ∧ s12 = .int .i64 k ∧ BoxG wr Bg base H.length (neL (iniTo H k)) ∧ wk.grownBy wr (some Bg)) (fun s12 _ => KL.length - (intOf s12).toNat)
  case atStart => exact ⟨0, Nat.zero_le _, by go_num, hboxk, World.grownBy.refl _ _⟩
  case round =>
    clear hboxk hbk
    obtain ⟨Wo, rfl⟩ : ∃ Wo, Wo = wr := ⟨_, rfl⟩
    obtain ⟨k, hk, rfl, hbox, hgw⟩ := hrel
    have hi1 : (0 : Int) ≤ (k : Int) := Int.natCast_nonneg _
    have hgo := grown_trans hgk hgw
    have hszo := hgo.size
    have hszk := hgw.size
    by_cases hlt : k < KL.length
    · have hi2 : (k : Int) < (KL.length : Int) := by omega
      obtain ⟨bk, ok, rfl, _, hck⟩ := (hKS.out.keep (Agree.grown hgw fun b hb => ⟨hb.2, by have := hb.1; simp; omega⟩) (fun b h => h)).at_ hlt
      have hst := hide (hstp.out k hlt)
      have hBo := hBh.grown hgo (by simp; omega)
      have b0 := hBo.cell 0
      simp only [List.getElem?_toArray, List.getElem?_cons_zero, List.getElem?_cons_succ] at b0
      generalize KL[k] = key at *
      unfold iniK at hst
      go_wp2_with fail
      clear b0 hck
      refine (readers9_any A c H key (-1) _ (hT0.out _ hgo) hn.out hr.out).mono ?_
      rintro e wd ⟨vd, rfl, hDO, hbd⟩
      have hDm := hide (fun a (ha : a ∈ rdsL H key (-1)) => (rdsL_mem.1 ha).1)
      have hDl := rdsL_len hn.out hr.out key (-1)
      generalize rdsL H key (-1) = D at *
      obtain ⟨Ad, cd, hv⟩ := hDO.form
      rw [intsN_len] at hv
      subst hv
      have hDS := hide (hDO.sl (K := fun b => Wo.heap.size ≤ b ∧ b < wd.heap.size) (fun g h1 h2 => ⟨h1, h2⟩))
      have hboxd := hbox.below hbd
      have hgd := grown_trans hgo (grown_below hbd (r := some Bg) (Nat.le_refl _))
      have hgd2 := grown_trans hgw (grown_below hbd (r := some Bg) (Nat.le_refl _))
      have hszd := hbd.size
      have hW0 : Hid (neL (iniTo H k) = neL (iniTo H k ++ iniR (wrsL H key) (D.take 0))) := hide (by simp [iniR])
      clear hDO hbd hbox hgw hgo hBo
      go_wp2_with fail
      go_loopw [20] (fun s20 wr => ∃ i : Nat, i ≤ D.length ∧ s20 = .int .i64 i ∧ BoxG wr Bg base H.length (neL (iniTo H k ++ iniR (wrsL H key) (D.take i))) ∧ wd.grownBy wr (some Bg)) (fun s20 _ => D.length - (intOf s20).toNat)
      case atStart => exact ⟨0, Nat.zero_le _, by go_num, by rw [← hW0.out]; exact hboxd, World.grownBy.refl _ _⟩
      case round =>
        clear hboxd hW0
        obtain ⟨Wp, rfl⟩ : ∃ Wp, Wp = wr := ⟨_, rfl⟩
        obtain ⟨i, hi, rfl, hbox, hgw⟩ := hrel
        have hj1 : (0 : Int) ≤ (i : Int) := Int.natCast_nonneg _
        have hgo := grown_trans hgd hgw
        by_cases hlt2 : i < D.length
        · have hj2 : (i : Int) < (D.length : Int) := by omega
          obtain ⟨bd, od, rfl, _, hcd⟩ := (hDS.out.keep (Agree.grown hgw fun b hb => ⟨hb.2, by have := hb.1; simp; omega⟩) (fun b h => h)).at_ (i := i) (by rw [intsN_len]; exact hlt2)
          rw [intsN_at hlt2] at hcd
          have hast := hide (iniR_step (wrsL H key) hlt2)
          have ham := hDm.out _ (List.getElem_mem hlt2)
          generalize D[i] = a at *
          have hBo := hBh.grown hgo (by simp; omega)
          have b0 := hBo.cell 0
          simp only [List.getElem?_toArray, List.getElem?_cons_zero, List.getElem?_cons_succ] at b0
          go_wp2_with fail
          clear b0 hcd
          refine (writers9_any A c H key _ (hT0.out _ hgo) hn.out hr.out).mono ?_
          rintro e wl ⟨vl, rfl, hLO, hbl⟩
          have hLm := hide (fun b (hb : b ∈ wrsL H key) => (wrsL_mem.1 hb).1)
          have hLl := wrsL_len H key
          generalize hLe : wrsL H key = L at *
          replace hLe := hide hLe
          obtain ⟨Al, cl, hv⟩ := hLO.form
          rw [intsN_len] at hv
          subst hv
          have hLS := hide (hLO.sl (K := fun b => Wp.heap.size ≤ b ∧ b < wl.heap.size) (fun g h1 h2 => ⟨h1, h2⟩))
          have hboxl := hbox.below hbl
          have hgl := grown_trans hgw (grown_below hbl (r := some Bg) (Nat.le_refl _))
          have hglo := grown_trans hgo (grown_below hbl (r := some Bg) (Nat.le_refl _))
          have hszl := hglo.size
          have hszp := hgo.size
          have hM0 : Hid (neL (iniTo H k ++ iniR L (D.take i)) = neL (iniTo H k ++ iniR L (D.take i) ++ (L.take 0).map fun b => (a, b))) := hide (by simp)
          clear hLO hbl hbox hgw hgo hBo
          go_wp2_with fail
          go_loopw [28] (fun s28 wr => ∃ j : Nat, j ≤ L.length ∧ s28 = .int .i64 j ∧ BoxG wr Bg base H.length (neL (iniTo H k ++ iniR L (D.take i) ++ (L.take j).map fun b => (a, b))) ∧ wl.grownBy wr (some Bg)) (fun s28 _ => L.length - (intOf s28).toNat)
          case atStart => exact ⟨0, Nat.zero_le _, by go_num, by rw [← hM0.out]; exact hboxl, World.grownBy.refl _ _⟩
          case round =>
            clear hboxl hM0
            obtain ⟨j, hj, rfl, hbox, hgw⟩ := hrel
            have hjj : (0 : Int) ≤ (j : Int) := Int.natCast_nonneg _
            by_cases hlt3 : j < L.length
            · have hj3 : (j : Int) < (L.length : Int) := by omega
              obtain ⟨bl, ol, rfl, _, hcl⟩ := (hLS.out.keep (Agree.grown hgw fun b hb => ⟨hb.2, by have := hb.1; simp; omega⟩) (fun b h => h)).at_ (i := j) (by rw [intsN_len]; exact hlt3)
              rw [intsN_at hlt3] at hcl
              have htk := hide (take_snoc' hlt3)
              have hbm := hLm.out _ (List.getElem_mem hlt3)
              generalize L[j] = b at *
              have hb0 : (0 : Int) ≤ (b : Int) := Int.natCast_nonneg _
              have hb1 : (b : Int) < (H.length : Int) := by omega
              have ha1 : (a : Int) < (H.length : Int) := by omega
              have hszr := hgw.size
              have hbsz : base ≤ wr.heap.size := by omega
              have hM2 : Hid (iniTo H k ++ iniR L (D.take i) ++ (L.take (j + 1)).map (fun b => (a, b)) = (iniTo H k ++ iniR L (D.take i) ++ (L.take j).map fun b => (a, b)) ++ [(a, b)]) := hide (by rw [htk.out, List.map_append, ← List.append_assoc]; rfl)
              go_wp2_with fail
              clear hcl
              refine (edge17_any H.length (by omega) _ (a : Int) (b : Int) ha1 hb0 hb1 Bg base _ hbox hbsz).mono ?_
              rintro e w5 ⟨rfl, hbox5, hg5⟩
              go_wp2
              go_roundw
              case rel => exact ⟨j + 1, by omega, by go_num, by rw [hM2.out]; exact hbox5.congr fun x y _ _ => neL_step _ a b x y, grown_trans hgw hg5⟩
              case measure => simp [intOf]; omega
            · obtain rfl : j = L.length := by omega
              rw [List.take_length, List.append_assoc, ← hast.out] at hbox
              go_wp2
              go_roundw
              case rel => exact ⟨i + 1, by omega, by go_num, by rw [hLe.out]; exact hbox, grown_trans hgl hgw⟩
              case measure => simp [intOf]; omega
        · obtain rfl : i = D.length := by omega
          rw [List.take_length, ← hst.out] at hbox
          go_wp2
          go_roundw
          case rel => exact ⟨k + 1, by omega, by go_num, hbox, grown_trans hgd2 hgw⟩
          case measure => simp [intOf]; omega
    · obtain rfl : k = KL.length := by omega
      go_wp2
      go_end0
      exact ⟨rfl, hbox.congr fun x y hx hy => hall.out x y hx hy, grown_trans hgk hgw⟩
set_option maxRecDepth 100000 in
theorem init17_any (A : Option Addr) (c : Nat) (H : List Txn) (w : World) (h : TxnS w (Old w) (.slice A H.length c) H) (hn : SmallH H) (hr : rightH H = true) :
    Calls Tryd.prog 47 #[.agg #[.slice A H.length c]] w (OutG1 w H.length (initE H)) := by
  obtain ⟨W0, hW0⟩ : ∃ W0, (w.alloc (.cells #[.slice A H.length c] 24)).alloc (.cells #[.int .i64 0, .slice none 0 0] 51) = W0 := ⟨_, rfl⟩
  have hB := below_two hW0
  have k0 := Blk.two1 hW0
  have k1 := Blk.two2 hW0
  have hs0 := size_two hW0
  have h0 := h.below hB
  have h32 : H.length ≤ 32 := ((rightH_iff H).1 hr).1
  have hcall := hide (laid17_any 62 (enters_of Tryd.func62 (by kernel_rfl) rfl) #[.pointer (some ⟨w.heap.size, 0, none⟩)] A c H (initE H) W0 h0 hn hr (fun W Bg hbW hbox hBg => by
    have hbW' : Below w.heap.size w W := hB.trans (hbW.mono (by omega))
    exact (init1_any A c H hr hn w.heap.size Bg W0.heap.size (Old w) W (TxnS.keep h (Agree.below hbW' fun b h => h) (fun b h => h)) (k0.below hbW k0.lt) (fun b hb => by have : b < w.heap.size := hb; omega) (by omega) (by omega) hbox hbW.size).mono fun e w' hh => hh))
  have c0 := k0.cell 0
  simp only [List.getElem?_toArray, List.getElem?_cons_zero, List.getElem?_cons_succ] at c0
  replace hs0 := hide hs0
  go_enter Tryd.func47, Tryd.ntmps47
  go_wp2_with fail
  clear hW0 c0
  refine hcall.out.mono ?_
  rintro e w4 ⟨g, hg, rfl, kR, hb4⟩
  have hgne : g ≠ w.heap.size + 1 := by have := hs0.out; omega
  have k14 := k1.below hb4 k1.lt
  have hb5 := hB.trans (hb4.mono (by have := hs0.out; omega))
  have j0 := k14.cell 0
  have j1 := k14.cell 1
  have jf := k14.frozen 0
  have jf1 := k14.frozen 1
  simp only [List.getElem?_toArray, List.getElem?_cons_zero, List.getElem?_cons_succ] at j0 j1
  have hgw : w.heap.size ≤ g := by have := hs0.out; omega
  clear hcall
  go_wp2
  have kF0 := ((kR.far (p := ⟨w.heap.size + 1, 0, none⟩) hgne (.int .i64 H.length)).far (p := ⟨w.heap.size + 1, 1, none⟩) hgne (.slice (some ⟨g, 0, none⟩) H.length H.length))
  have hF := ((hb5.setCell (p := ⟨w.heap.size + 1, 0, none⟩) (by simp) (.int .i64 H.length)).setCell (p := ⟨w.heap.size + 1, 1, none⟩) (by simp) (.slice (some ⟨g, 0, none⟩) H.length H.length))
  exact bodyPost_ret (v := .agg #[.int .i64 H.length, .slice (some ⟨g, 0, none⟩) H.length H.length]) (by simp [results, Tryd.results47, go_sem, j0, j1]) rfl ⟨g, hgw, rfl, kF0, hF⟩
end Go.Proofs.YtfodlklpfffaaaaDoor

namespace Go.Proofs.YtfodlklpfffaaaaDoor
open Go.RowKit Go.Inq
set_option maxHeartbeats 4000000
attribute [local go_sem ↓] Go.wp_at_zero Go.wp_at_succ

/-- A graph whose rows are a block of the call's own. -/
def GV (base n : Nat) (E : Edges) (v : Value) (W : World) : Prop := ∃ g, base ≤ g ∧ v = .agg #[.int .i64 n, .slice (some ⟨g, 0, none⟩) n n] ∧ Blk W g 75 (rowsB n E)
theorem GV.below {base n : Nat} {E : Edges} {v : Value} {W W' : World} (h : GV base n E v W) (hb : Below W.heap.size W W') : GV base n E v W' := by
  obtain ⟨g, h1, h2, h3⟩ := h
  exact ⟨g, h1, h2, h3.below hb h3.lt⟩
/-- A variable that is made and set: all else stays. -/
def VarSt (b : Nat) (W W' : World) : Prop :=
  (W'.os = W.os ∧ W'.tape = W.tape ∧ W'.output = W.output ∧ W.heap.size ≤ W'.heap.size) ∧ ∀ k, k < W.heap.size → W'.heap[k]? = W.heap[k]? ∨ (b ≤ k ∧ ∃ cs cs', W.heap[k]? = some (.cells cs 51 (0, 0)) ∧ W'.heap[k]? = some (.cells cs' 51 (0, 0)) ∧ cs'.size = 2)
theorem VarSt.of_below {b : Nat} {W W' : World} (h : Below W.heap.size W W') : VarSt b W W' := ⟨⟨h.os, h.tape, h.output, h.size⟩, fun k hk => .inl (h.block k hk)⟩
theorem VarSt.blk {b g : Nat} {t : TypeId} {cs : Array Value} {W W' : World} (h : VarSt b W W') (hk : Blk W g t cs) (ht : t ≠ 51) : Blk W' g t cs := by
  rcases h.2 g hk.lt with e | ⟨_, cs1, _, e, _⟩
  · exact e.trans hk
  · rw [show W.heap[g]? = _ from hk] at e
    injection e with e
    injection e with _ e
    exact absurd e ht
theorem VarSt.below {b : Nat} {W W' : World} (h : VarSt b W W') : Below b W W' ∨ W.heap.size < b := by
  rcases Nat.lt_or_ge W.heap.size b with g | g
  · exact .inr g
  · exact .inl ⟨h.1.1, h.1.2.1, h.1.2.2.1, h.1.2.2.2, fun k hk => by
      rcases h.2 k (by omega) with e | ⟨e, _⟩
      · exact e
      · omega⟩
theorem GV.var {base n b : Nat} {E : Edges} {v : Value} {W W' : World} (h : GV base n E v W) (hb : VarSt b W W') : GV base n E v W' := by
  obtain ⟨g, h1, h2, h3⟩ := h
  exact ⟨g, h1, h2, hb.blk h3 (by decide)⟩
def VarV (b : Nat) (v : Value) (W : World) : Prop := ∃ g, b ≤ g ∧ v = .pointer (some ⟨g, 0, none⟩) ∧ ∃ x y, Blk W g 51 #[x, y]
def PastW (H : List Txn) (A : Option Addr) (c base : Nat) : Nat → (Nat → Value) → World → Prop
  | 0, vs, _ => vs 0 = .agg #[.slice A H.length c]
  | 1, vs, W => GV base H.length (soE H) (vs 1) W
  | 2, vs, _ => vs 2 = .agg #[.slice A H.length c]
  | 3, vs, W => GV base H.length (wrE H) (vs 3) W
  | 4, vs, W => ∃ u, vs 4 = .tuple #[u, .int .i64 0] ∧ GV base H.length (pastE H) u W
  | 5, vs, W => ∃ u, vs 5 = .tuple #[u, .int .i64 0] ∧ GV base H.length (pastE H) u W
  | 6, vs, W => GV base H.length (pastE H) (vs 6) W
  | 7, vs, _ => vs 7 = .int .i64 0
  | 8, vs, W => VarV (base + 2) (vs 8) W
  | 9, vs, W => ∃ g x y, vs 8 = .pointer (some ⟨g, 0, none⟩) ∧ base + 2 ≤ g ∧ vs 6 = .agg #[x, y] ∧ Blk W g 51 #[x, y]
  | _, _, _ => True
def pastD : Nat → List Nat
  | 1 => [0]
  | 3 => [2]
  | 4 => [1, 3]
  | 5 => [4]
  | 6 => [5]
  | 7 => [5]
  | 9 => [8, 6]
  | 10 => [7]
  | _ => []
theorem past_cg {H : List Txn} {A : Option Addr} {c base : Nat} : ∀ j (vs vs' : Nat → Value) w, (∀ k, k = j ∨ k ∈ pastD j → vs k = vs' k) → PastW H A c base j vs w → PastW H A c base j vs' w := by
  intro j vs vs' w hk h
  match j, h with
  | 0, h | 1, h | 2, h | 3, h | 4, h | 5, h | 6, h | 7, h | 8, h =>
    simp only [PastW] at h ⊢
    rw [← hk _ (.inl rfl)]
    exact h
  | 9, h =>
    simp only [PastW] at h ⊢
    rw [← hk 8 (.inr (by simp [pastD])), ← hk 6 (.inr (by simp [pastD]))]
    exact h
  | n + 10, _ => trivial
/-- What an operation leaves. -/
def PastSt (base : Nat) (i : Nat) (W W' : World) : Prop := if i = 9 then VarSt (base + 2) W W' else Below W.heap.size W W'
theorem PastSt.var {base i : Nat} {W W' : World} (h : PastSt base i W W') : VarSt (base + 2) W W' := by
  unfold PastSt at h
  split at h
  · exact h
  · exact VarSt.of_below h
theorem VarV.var {b b' : Nat} {v : Value} {W W' : World} (h : VarV b v W) (hs : VarSt b' W W') : VarV b v W' := by
  obtain ⟨g, h1, h2, x, y, h3⟩ := h
  rcases hs.2 g h3.lt with e | ⟨_, cs, cs', _, e2, e3⟩
  · exact ⟨g, h1, h2, x, y, e.trans h3⟩
  · refine ⟨g, h1, h2, cs'[0]'(by omega), cs'[1]'(by omega), ?_⟩
    have : cs' = #[cs'[0]'(by omega), cs'[1]'(by omega)] := by
      refine Array.ext (by simp [e3]) fun i h1 h2 => ?_
      simp at h2
      match i, h2 with
      | 0, _ => rfl
      | 1, _ => rfl
    unfold Blk
    rw [← this]
    exact e2
theorem past_keep {H : List Txn} {A : Option Addr} {c base : Nat} : ∀ i j (vs : Nat → Value) w w', j ≠ i → j ∉ (fun _ => [] : Nat → List Nat) i → PastW H A c base j vs w → PastSt base i w w' → PastW H A c base j vs w' := by
  intro i j vs w w' hne _ h hs
  have hv := hs.var
  match j, h with
  | 0, h | 2, h | 7, h => exact h
  | 1, h | 3, h | 6, h =>
    simp only [PastW] at h ⊢
    exact h.var hv
  | 4, h | 5, h =>
    simp only [PastW] at h ⊢
    obtain ⟨u, h1, h2⟩ := h
    exact ⟨u, h1, h2.var hv⟩
  | 8, h =>
    simp only [PastW] at h ⊢
    exact VarV.var h hv
  | 9, h =>
    unfold PastSt at hs
    rw [if_neg (fun e => hne e.symm)] at hs
    simp only [PastW] at h ⊢
    obtain ⟨g, x, y, h1, h2, h3, h4⟩ := h
    exact ⟨g, x, y, h1, h2, h3, h4.below hs h4.lt⟩
  | n + 10, _ => trivial
theorem pastD_end : ∀ i, 11 ≤ i → pastD i = [] := by
  intro i hi
  match i, hi with
  | n + 11, _ => rfl
set_option maxRecDepth 100000 in
theorem past17_any (A : Option Addr) (c : Nat) (H : List Txn) (w : World) (h : TxnS w (Old w) (.slice A H.length c) H) (hn : SmallH H) (hr : rightH H = true) :
    Calls Tryd.prog 21 #[.agg #[.slice A H.length c]] w (OutG1 w H.length (pastE H)) := by
  obtain ⟨W0, hW0⟩ : ∃ W0, (w.alloc (.cells #[.slice A H.length c] 24)).alloc (.cells #[.int .i64 0, .slice none 0 0] 51) = W0 := ⟨_, rfl⟩
  have hB := below_two hW0
  have k0 := Blk.two1 hW0
  have k1 := Blk.two2 hW0
  have h32 : H.length ≤ 32 := ((rightH_iff H).1 hr).1
  go_enter Tryd.func21, Tryd.ntmps21
  go_wp2_with fail
  clear hW0
  refine wp_region_rel (PastW H A c w.heap.size) (fun W => Below w.heap.size w W ∧ Blk W w.heap.size 24 #[.slice A H.length c] ∧ Blk W (w.heap.size + 1) 51 #[.int .i64 0, .slice none 0 0]) (PastSt w.heap.size) pastD (by kernel_rfl) (by kernel_rfl) (by kernel_rfl) pastD_end (fun _ => []) (by kernel_rfl) past_cg past_keep ⟨hB.drew, k0, k1⟩ ?hstep ?hend
  case hstep =>
    intro i o ho vs W hS hd
    obtain ⟨hb, m0, m1⟩ := hS
    have hT := h.below hb
    match i, ho with
    | 0, ho =>
      simp only [List.getElem?_cons_zero, List.getElem?_cons_succ, Option.some.injEq] at ho
      subst ho
      simp only [acV, List.getElem?_toArray, List.getElem?_cons_zero, List.getElem?_cons_succ, Act.put, List.setIfInBounds_toArray, List.set_cons_zero, List.set_cons_succ]
      have c0 := m0.cell 0
      simp only [List.getElem?_toArray, List.getElem?_cons_zero] at c0
      go_wp2
      exact ⟨rfl, .agg #[.slice A H.length c], rfl, rfl, ⟨hb, m0, m1⟩, Below.refl _ _⟩
    | 1, ho =>
      have d0 := hd 0 (by simp [pastD])
      simp only [PastW] at d0
      simp only [List.getElem?_cons_zero, List.getElem?_cons_succ, Option.some.injEq] at ho
      subst ho
      simp only [acV, List.getElem?_toArray, List.getElem?_cons_zero, List.getElem?_cons_succ, Act.put, List.setIfInBounds_toArray, List.set_cons_zero, List.set_cons_succ]
      rw [d0]
      go_wp2_with fail
      refine (so17_any A c H _ hT hn hr).mono ?_
      rintro e W2 ⟨g, hg, rfl, kR, hb2⟩
      go_wp2
      exact ⟨rfl, _, rfl, ⟨g, Nat.le_trans hb.size hg, rfl, kR⟩, ⟨hb.trans (hb2.mono hb.size), m0.below hb2 m0.lt, m1.below hb2 m1.lt⟩, hb2⟩
    | 2, ho =>
      simp only [List.getElem?_cons_zero, List.getElem?_cons_succ, Option.some.injEq] at ho
      subst ho
      simp only [acV, List.getElem?_toArray, List.getElem?_cons_zero, List.getElem?_cons_succ, Act.put, List.setIfInBounds_toArray, List.set_cons_zero, List.set_cons_succ]
      have c0 := m0.cell 0
      simp only [List.getElem?_toArray, List.getElem?_cons_zero] at c0
      go_wp2
      exact ⟨rfl, .agg #[.slice A H.length c], rfl, rfl, ⟨hb, m0, m1⟩, Below.refl _ _⟩
    | 3, ho =>
      have d0 := hd 2 (by simp [pastD])
      simp only [PastW] at d0
      simp only [List.getElem?_cons_zero, List.getElem?_cons_succ, Option.some.injEq] at ho
      subst ho
      simp only [acV, List.getElem?_toArray, List.getElem?_cons_zero, List.getElem?_cons_succ, Act.put, List.setIfInBounds_toArray, List.set_cons_zero, List.set_cons_succ]
      rw [d0]
      go_wp2_with fail
      refine (wr17_any A c H _ hT hn hr).mono ?_
      rintro e W2 ⟨g, hg, rfl, kR, hb2⟩
      go_wp2
      exact ⟨rfl, _, rfl, ⟨g, Nat.le_trans hb.size hg, rfl, kR⟩, ⟨hb.trans (hb2.mono hb.size), m0.below hb2 m0.lt, m1.below hb2 m1.lt⟩, hb2⟩
    | 4, ho =>
      obtain ⟨g1, hg1, d1, q1⟩ := hd 1 (by simp [pastD])
      obtain ⟨g3, hg3, d3, q3⟩ := hd 3 (by simp [pastD])
      simp only [List.getElem?_cons_zero, List.getElem?_cons_succ, Option.some.injEq] at ho
      subst ho
      simp only [acV, List.getElem?_toArray, List.getElem?_cons_zero, List.getElem?_cons_succ, Act.put, List.setIfInBounds_toArray, List.set_cons_zero, List.set_cons_succ]
      rw [d1, d3]
      go_wp2_with fail
      refine (union12_any H.length _ _ _ _ (soE H) (wrE H) (Old W) _ (GrS.of_blk q1 q1.lt (by omega)) (GrS.of_blk q3 q3.lt (by omega)) (fun b hb => hb)).mono ?_
      rintro e W2 ⟨g, hg, rfl, kR, hb2⟩
      go_wp2
      exact ⟨rfl, _, rfl, ⟨_, rfl, g, Nat.le_trans hb.size hg, rfl, kR⟩, ⟨hb.trans (hb2.mono hb.size), m0.below hb2 m0.lt, m1.below hb2 m1.lt⟩, hb2⟩
    | 5, ho =>
      obtain ⟨u, d4, q4⟩ := hd 4 (by simp [pastD])
      simp only [List.getElem?_cons_zero, List.getElem?_cons_succ, Option.some.injEq] at ho
      subst ho
      simp only [acV, List.getElem?_toArray, List.getElem?_cons_zero, List.getElem?_cons_succ, Act.put, List.setIfInBounds_toArray, List.set_cons_zero, List.set_cons_succ]
      rw [d4]
      go_wp2
      exact ⟨rfl, _, rfl, ⟨_, rfl, q4⟩, ⟨hb, m0, m1⟩, Below.refl _ _⟩
    | 6, ho =>
      obtain ⟨u, d5, q5⟩ := hd 5 (by simp [pastD])
      simp only [List.getElem?_cons_zero, List.getElem?_cons_succ, Option.some.injEq] at ho
      subst ho
      simp only [acV, List.getElem?_toArray, List.getElem?_cons_zero, List.getElem?_cons_succ, Act.put, List.setIfInBounds_toArray, List.set_cons_zero, List.set_cons_succ]
      rw [d5]
      go_wp2
      exact ⟨rfl, _, rfl, q5, ⟨hb, m0, m1⟩, Below.refl _ _⟩
    | 7, ho =>
      obtain ⟨u, d5, q5⟩ := hd 5 (by simp [pastD])
      simp only [List.getElem?_cons_zero, List.getElem?_cons_succ, Option.some.injEq] at ho
      subst ho
      simp only [acV, List.getElem?_toArray, List.getElem?_cons_zero, List.getElem?_cons_succ, Act.put, List.setIfInBounds_toArray, List.set_cons_zero, List.set_cons_succ]
      rw [d5]
      go_wp2
      exact ⟨rfl, _, rfl, rfl, ⟨hb, m0, m1⟩, Below.refl _ _⟩
    | 8, ho =>
      simp only [List.getElem?_cons_zero, List.getElem?_cons_succ, Option.some.injEq] at ho
      subst ho
      simp only [acV, List.getElem?_toArray, List.getElem?_cons_zero, List.getElem?_cons_succ, Act.put, List.setIfInBounds_toArray, List.set_cons_zero, List.set_cons_succ]
      go_wp2
      have hsz := m1.lt
      exact ⟨rfl, _, rfl, ⟨W.heap.size, by omega, rfl, _, _, Blk.new _ _ _⟩, ⟨hb.alloc hb.size _, m0.alloc _, m1.alloc _⟩, (Below.refl _ _).alloc (Nat.le_refl _) _⟩
    | 9, ho =>
      obtain ⟨g, hg, d8, x, y, q8⟩ := hd 8 (by simp [pastD])
      obtain ⟨g6, hg6, d6, q6⟩ := hd 6 (by simp [pastD])
      simp only [List.getElem?_cons_zero, List.getElem?_cons_succ, Option.some.injEq] at ho
      subst ho
      simp only [acV, List.getElem?_toArray, List.getElem?_cons_zero, List.getElem?_cons_succ, Act.put, List.setIfInBounds_toArray, List.set_cons_zero, List.set_cons_succ]
      rw [d8, d6]
      have c0 := q8.cell 0
      have c1 := q8.cell 1
      have f0 := q8.frozen 0
      have f1 := q8.frozen 1
      simp only [List.getElem?_toArray, List.getElem?_cons_zero, List.getElem?_cons_succ] at c0 c1
      go_wp2
      have hq := (q8.set_ 0 (.int .i64 H.length)).set_ 1 (.slice (some ⟨g6, 0, none⟩) H.length H.length)
      have n1 : w.heap.size ≠ g := by omega
      have n2 : w.heap.size + 1 ≠ g := by omega
      refine ⟨rfl, undef, rfl, ⟨g, _, _, (show updV vs 9 undef 8 = _ from d8), hg, (show updV vs 9 undef 6 = _ from d6), by simpa using hq⟩, ⟨(hb.setCell (p := ⟨g, 0, none⟩) (by simp; omega) _).setCell (p := ⟨g, 1, none⟩) (by simp; omega) _, (m0.far n1 _).far n1 _, (m1.far n2 _).far n2 _⟩, ?_⟩
      unfold PastSt
      rw [if_pos rfl]
      refine ⟨⟨rfl, rfl, rfl, by simp⟩, fun k hk => ?_⟩
      by_cases e : k = g
      · subst e
        exact .inr ⟨hg, _, _, q8, hq, by simp⟩
      · exact .inl ((Below.heap_setCell _ ⟨g, 1, none⟩ _ k e).trans (Below.heap_setCell _ ⟨g, 0, none⟩ _ k e))
    | 10, ho =>
      have d7 := hd 7 (by simp [pastD])
      simp only [PastW] at d7
      simp only [List.getElem?_cons_zero, List.getElem?_cons_succ, Option.some.injEq] at ho
      subst ho
      simp only [acV, List.getElem?_toArray, List.getElem?_cons_zero, List.getElem?_cons_succ, Act.put, List.setIfInBounds_toArray, List.set_cons_zero, List.set_cons_succ]
      rw [d7]
      go_wp2
      exact ⟨rfl, _, rfl, trivial, ⟨hb, m0, m1⟩, Below.refl _ _⟩
    | n + 11, ho => simp at ho
  case hend =>
    rintro vs W ⟨hb, m0, m1⟩ hd
    obtain ⟨g, x, y, d8, hg, d6, q9⟩ := hd 9 (by simp) (by simp)
    obtain ⟨g6, hg6, d6', q6⟩ := hd 6 (by simp) (by simp)
    rw [d6] at d6'
    injection d6' with d6'
    simp only [Array.mk.injEq, List.cons.injEq, and_true] at d6'
    obtain ⟨rfl, rfl⟩ := d6'
    clear hd
    simp only [acV, List.getElem?_toArray, List.getElem?_cons_zero, List.getElem?_cons_succ, Act.put, List.setIfInBounds_toArray, List.set_cons_zero, List.set_cons_succ, List.length_cons, List.length_nil, Nat.reduceAdd]
    rw [d8, d6]
    have c0 := q9.cell 0
    have c1 := q9.cell 1
    have j0 := m1.cell 0
    have j1 := m1.cell 1
    have jf := m1.frozen 0
    have jf1 := m1.frozen 1
    simp only [List.getElem?_toArray, List.getElem?_cons_zero, List.getElem?_cons_succ] at c0 c1 j0 j1
    have hne : g6 ≠ w.heap.size + 1 := by
      rintro rfl
      have := m1.symm.trans q6
      simp at this
    go_wp2
    have kF0 := ((q6.far (p := ⟨w.heap.size + 1, 0, none⟩) hne (.int .i64 H.length)).far (p := ⟨w.heap.size + 1, 1, none⟩) hne (.slice (some ⟨g6, 0, none⟩) H.length H.length))
    have hF := ((hb.setCell (p := ⟨w.heap.size + 1, 0, none⟩) (by simp) (.int .i64 H.length)).setCell (p := ⟨w.heap.size + 1, 1, none⟩) (by simp) (.slice (some ⟨g6, 0, none⟩) H.length H.length))
    exact bodyPost_ret (v := .agg #[.int .i64 H.length, .slice (some ⟨g6, 0, none⟩) H.length H.length]) (by simp [results, Tryd.results21, go_sem, j0, j1]) rfl ⟨g6, hg6, rfl, kF0, hF⟩
end Go.Proofs.YtfodlklpfffaaaaDoor
