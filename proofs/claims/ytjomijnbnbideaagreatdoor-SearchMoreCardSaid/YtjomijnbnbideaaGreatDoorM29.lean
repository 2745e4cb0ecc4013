/-
  Walks: layer 25: a tree that has facts in front of it.
-/
import Derived.Test.YtjomijnbnbideaaGreatDoorM20
import Derived.Test.YtjomijnbnbideaaGreatDoorM04
import Derived.Test.YtjomijnbnbideaaGreatDoorM21
import Derived.Test.YtjomijnbnbideaaGreatDoorM26
import Derived.Test.YtjomijnbnbideaaGreatDoorM28
set_option linter.unusedVariables false
set_option linter.unusedSimpArgs false
namespace Go.Proofs.YtjomijnbnbideaaGreatDoor
open Go.RowKit Go.Inq
set_option maxHeartbeats 8000000
attribute [local go_sem ↓] Go.wp_at_zero Go.wp_at_succ

def UndOut (w : World) (l : List Nod) (e : Ending) (w' : World) : Prop := ∃ v, e = .returned (.tuple #[v, .int .i64 0]) ∧ NodO w' w.heap.size v l ∧ Below w.heap.size w w'
def und1 (L : List Fct) : List Nod := L.map fun f => ⟨f.c, []⟩
def und3 (H : List Txn) (level : Int) (L : List Fct) (k : Nat) : List Nod := (List.range k).map fun z => leafU H level L (L.length - 1 - z)
theorem und1_step {L : List Fct} {k : Nat} (h : k < L.length) : und1 (L.take (k + 1)) = und1 (L.take k) ++ [⟨L[k].c, []⟩] := by
  unfold und1
  rw [List.take_succ_eq_append_getElem h, List.map_append]; rfl
theorem und3_step (H : List Txn) (level : Int) (L : List Fct) (k : Nat) : und3 H level L (k + 1) = und3 H level L k ++ [leafU H level L (L.length - 1 - k)] := by
  unfold und3
  rw [List.range_succ, List.map_append]; rfl
theorem und_all (H : List Txn) (level : Int) (L : List Fct) (tree : List Nod) : und1 L ++ tree ++ und3 H level L L.length = underL H level L tree := rfl
theorem und1_len (L : List Fct) : (und1 L).length = L.length := by unfold und1; rw [List.length_map]
theorem und3_len (H : List Txn) (level : Int) (L : List Fct) (k : Nat) : (und3 H level L k).length = k := by unfold und3; rw [List.length_map, List.length_range]
theorem leaf_eq {H : List Txn} {level : Int} {L : List Fct} {i : Nat} (hi : i < L.length) : leafU H level L i = ⟨zeroC, intsN (findL H.length (fullE H level (chosL (L.take i) ++ [turnB L[i].c])))⟩ := by
  unfold leafU
  rw [getD_of hi]; rfl
theorem chos_turn {L : List Fct} {i : Nat} (hi : i < L.length) : (chosL (L.take (i + 1))).set i ⟨L[i].c.key, L[i].c.b, L[i].c.a⟩ = chosL (L.take i) ++ [turnB L[i].c] := by
  rw [chos_step hi]
  have hl : (chosL (L.take i)).length = i := by rw [chosL_len, List.length_take]; omega
  rw [List.set_append, if_neg (by omega), hl]
  simp [turnB]
theorem chos_last {L : List Fct} {i : Nat} (hi : i < L.length) (hj : i < (chosL (L.take (i + 1))).length) : (chosL (L.take (i + 1)))[i] = L[i].c := by
  unfold chosL
  simp
theorem turn_right {H : List Txn} {level : Int} {L : List Fct} (h : replB H level L = true) (hn : L.length ≤ 20000) {i : Nat} (hi : i < L.length) : rightC H (chosL (L.take i) ++ [turnB L[i].c]) = true := by
  have h1 := repl_one h
  unfold rightC
  rw [(may_iff.1 (replB_may h)).1, List.length_append, chosL_len, List.length_take, decide_eq_true (show min i L.length + [turnB L[i].c].length ≤ 20000 by simp; omega), Bool.true_and, Bool.true_and, List.all_eq_true]
  intro c hc
  rw [List.mem_append, List.mem_singleton] at hc
  rcases hc with hc | rfl
  · rw [chosL_take] at hc
    exact h1 c (List.mem_of_mem_take hc)
  · exact turn_one (h1 _ (by unfold chosL; exact List.mem_map_of_mem (List.getElem_mem hi)))
theorem blk_ne {w : World} {g g' : Nat} {t t' : TypeId} {cs cs' : Array Value} (h : Blk w g t cs) (h' : Blk w g' t' cs') (hne : t ≠ t') : g ≠ g' := by
  rintro rfl
  have h1 := (show w.heap[g]? = _ from h).symm.trans h'
  simp only [Option.some.injEq, Obj.cells.injEq] at h1
  exact hne h1.2.1
set_option maxRecDepth 100000 in
theorem under25_any (A : Option Addr) (c : Nat) (H : List Txn) (level : Int) (Al : Option Addr) (cl : Nat) (L : List Fct) (At : Option Addr) (ct : Nat) (tree : List Nod) (w : World) (h : TxnS w (Old w) (.slice A H.length c) H) (hn : SmallH H) (hL : FctS w (Old w) (.slice Al L.length cl) L) (hF : FitF L) (ht : NodS w (Old w) (.slice At tree.length ct) tree) (hN : FitN tree) (hr : replB H level L = true) (hl : L.length < 20000) (hTB : TabB w) :
    Calls Tryz.prog 155 #[.agg #[.slice A H.length c], .int .i64 level, .slice Al L.length cl, .slice At tree.length ct] w (UndOut w (underL H level L tree)) := by
  obtain ⟨ino, hino, hino1, hino2, hino3⟩ := info_parts infoN24
  obtain ⟨ii, hii, hii1, hii2, hii3⟩ := info_parts infoI10
  obtain ⟨hri, hlev⟩ := may_iff.1 (replB_may hr)
  have h64 : H.length ≤ 64 := by have := ((rightH_iff H).1 hri).1; omega
  have htl := hN.1
  have hbA : ∀ W, Below w.heap.size w W → w.heap.size ≤ W.heap.size := fun W hb => hb.size
  obtain ⟨W0, hW0⟩ : ∃ W0, w.alloc (.cells #[.slice A H.length c] 24) = W0 := ⟨_, rfl⟩
  have hB := below_allocEq (Below.refl w.heap.size w) hW0 (Nat.le_refl _)
  have k0 := Blk.newEq hW0
  have hs0 : w.heap.size < W0.heap.size := k0.lt
  have hrp := hide (replay22_any A c H level Al cl L W0 (h.below hB) hn (hL.below hB) hF)
  rw [hr] at hrp
  have hch := hide (fun i (hi : i < L.length) W (hb : Below w.heap.size w W) => (by
    have hlt : (L.take (i + 1)).length = i + 1 := by rw [List.length_take]; omega
    have := choices22_any Al cl (L.take (i + 1)) W (by rw [hlt]; exact (hL.below hb).take (by omega)) (by omega)
    rw [hlt] at this
    exact this : Calls Tryz.prog 54 #[.slice Al (i + 1) cl] W (OutC W (chosL (L.take (i + 1))))))
  have hfu := hide (fun i (hi : i < L.length) W (hb : Below w.heap.size w W) A' c' (hC : ChoS W (Old W) (.slice A' (chosL (L.take i) ++ [turnB L[i].c]).length c') (chosL (L.take i) ++ [turnB L[i].c])) => full18_any A c H level A' c' (chosL (L.take i) ++ [turnB L[i].c]) W (h.below hb) hn hC (turn_right hr (by omega) hi) hlev (hTB.below hb))
  have hfi := hide (fun n E g W (hb : Below w.heap.size w W) (kg : Blk W g 145 (rowsB n E)) (hn64 : n ≤ 64) => find15_any n (some ⟨g, 0, none⟩) n E W (GrS.of_blk kg kg.lt hn64) (hTB.below hb))
  have hu1 := hide (fun k (hk : k < L.length) => und1_step hk)
  have hu3 := hide (und3_step H level L)
  have hall := hide (und_all H level L tree)
  have hlf := hide (fun i (hi : i < L.length) => leaf_eq (H := H) (level := level) hi)
  have hct := hide (fun i (hi : i < L.length) => chos_turn hi)
  have hcl := hide (fun i (hi : i < L.length) hj => chos_last hi hj)
  have hcn := hide (fun i => chosL_len (L.take (i + 1)))
  have htn := hide (fun i (hi : i < L.length) => (by rw [List.length_append, chosL_len, List.length_take]; simp; omega : (chosL (L.take i) ++ [turnB L[i].c]).length = i + 1))
  have hU1 := und1_len L
  replace hL := hide hL
  replace ht := hide ht
  have hcap := hide hL.out.cap
  have c0 := Blk.n0 k0
  replace hr := hide hr
  replace hri := hide hri
  replace hlev := hide hlev
  replace hU1 := hide hU1
  replace hN := hide hN
  replace hF := hide hF
  replace h := hide h
  replace hs0 := hide hs0
  go_enter Tryz.func155, Tryz.ntmps155
  go_wp2_with fail
  clear hW0
  refine hrp.out.mono ?_
  rintro e w1 ⟨rfl, hb1⟩
  have hB1 := hB.trans (hb1.mono hB.size)
  replace k0 := k0.below hb1 k0.lt
  have hs1 := hB1.size
  clear hrp hb1 hB c0 hs0
  go_wp2_with (at_make; refine wpList_make_own _ rfl _ _ 32 rfl w.heap.size 114 ino _ 4 Tryz.underlying32 hino hino1 hino2 .i64 .i64 ((tree.length : Int) + 2 * (L.length : Int)) (tree.length + 2 * L.length) rfl rfl (by omega) (by rw [hino3]; omega) (by unfold maxLen; omega) hs1 ?_; intro W2 hown2 hgrow2)
  have hb2 : Below w.heap.size w W2 := hB1.grown hgrow2 hs1 (by simp)
  replace k0 := k0.grown hgrow2 (by simp)
  have hO2 : NodO W2 w.heap.size (.slice (some ⟨w1.heap.size, 0, none⟩) 0 (tree.length + 2 * L.length)) (und1 (L.take 0)) := ⟨[], by simpa [und1] using hown2, rfl, fun i cs x h => by simp at h⟩
  clear hown2 hgrow2 hB1 hs1
  go_wp2_with fail
  go_loopw [10, 37] (fun s10 s37 wr => ∃ k : Nat, k ≤ L.length ∧ s37 = .int .i64 (k : Int) ∧ NodO wr w.heap.size s10 (und1 (L.take k)) ∧ Blk wr w.heap.size 24 #[.slice A H.length c] ∧ Below w.heap.size w wr) (fun _ s37 _ => L.length - (intOf s37).toNat)
  case atStart => exact ⟨0, by omega, by go_num, hO2, k0, hb2⟩
  case round =>
    clear k0 hb2 hO2
    obtain ⟨Wo, rfl⟩ : ∃ Wo, Wo = wr := ⟨_, rfl⟩
    obtain ⟨k, hk, rfl, hO, k0, hb⟩ := hrel
    have hk0 : (0 : Int) ≤ (k : Int) := Int.natCast_nonneg _
    by_cases hlt : k < L.length
    · have hk1 : (k : Int) < (L.length : Int) := by omega
      obtain ⟨b, off, Ay, cy, rfl, -, d⟩ := (hL.out.below hb).at_ hlt
      obtain ⟨d0, d1, d2, d3, d4, d5, d6, -⟩ := d
      have hstp := hide (hu1.out k hlt)
      have hMl : (und1 (L.take k)).length ≤ 20000 := by rw [und1_len, List.length_take]; omega
      generalize L[k] = f at *
      obtain ⟨⟨fk, fa, fb⟩, fd, fi, fj, fy⟩ := f
      dsimp only at d0 d1 d2 d3 d4 d5 d6 hstp
      obtain ⟨Av, cv, rfl⟩ := OwnR.form hO
      generalize und1 (L.take k) = M at *
      have hA := below_allocEq hb (W := Wo.alloc (.cells #[.int .i64 fk, .int .i64 fa, .int .i64 fb, .int .i64 fd, .int .i64 fi, .int .i64 fj, .slice Ay fy.length cy] 51)) rfl hb.size
      have hO1 := hide (NodO.below hO ((Below.refl Wo.heap.size Wo).alloc (Nat.le_refl _) (.cells #[.int .i64 fk, .int .i64 fa, .int .i64 fb, .int .i64 fd, .int .i64 fi, .int .i64 fj, .slice Ay fy.length cy] 51)))
      have kA := k0.alloc (.cells #[.int .i64 fk, .int .i64 fa, .int .i64 fb, .int .i64 fd, .int .i64 fi, .int .i64 fj, .slice Ay fy.length cy] 51)
      clear hO
      go_upto_region 9 with fail
      generalize hWa : Wo.alloc (.cells #[.int .i64 fk, .int .i64 fa, .int .i64 fb, .int .i64 fd, .int .i64 fi, .int .i64 fj, .slice Ay fy.length cy] 51) = Wa at *
      have nn := Blk.newEq hWa
      have hsa := hA.size
      clear hWa d0 d1 d2 d3 d4 d5 d6
      have e0 := Blk.n0 nn
      have e1 := Blk.n1 nn
      have e2 := Blk.n2 nn
      go_wp2_with (at_builtin; refine wpList_pushR NodR.stab nod_one rfl _ _ 32 rfl w.heap.size 114 ino _ 4 48 Tryz.underlying32 hino hino1 hino2 hino3 rfl (by decide) [3] (by decide) (.slice Av M.length cv) M rfl hO1.out _ ⟨⟨fk, fa, fb⟩, []⟩ rfl nodR_nil rfl (by unfold maxLen; omega) (by omega) hsa w w.heap.size (Nat.le_refl _) hA ?_; intro v1 w6 hown1 hag1 hb1 hat1 hkp1)
      have k6 := hkp1 _ _ _ kA (by decide)
      go_wp2
      go_roundw
      case rel => exact ⟨k + 1, by omega, by go_num, by rw [hstp.out]; exact hown1, k6, hb1⟩
      case measure => simp [intOf]; omega
    · obtain rfl : k = L.length := by omega
      rw [List.take_length] at hO
      have hO2 : NodO Wo w.heap.size u10 (und1 L ++ tree.take 0) := by simpa using hO
      clear hO hlt hu1
      go_wp2_with fail
      go_loopw [10, 50] (fun s10 s50 wr => ∃ k : Nat, k ≤ tree.length ∧ s50 = .int .i64 (k : Int) ∧ NodO wr w.heap.size s10 (und1 L ++ tree.take k) ∧ Blk wr w.heap.size 24 #[.slice A H.length c] ∧ Below w.heap.size w wr) (fun _ s50 _ => tree.length - (intOf s50).toNat)
      case atStart => exact ⟨0, by omega, by go_num, hO2, k0, hb⟩
      case round =>
        clear k0 hb hO2
        obtain ⟨Wo, rfl⟩ : ∃ Wo, Wo = wr := ⟨_, rfl⟩
        obtain ⟨k, hk, rfl, hO, k0, hb⟩ := hrel
        have hk0 : (0 : Int) ≤ (k : Int) := Int.natCast_nonneg _
        by_cases hlt : k < tree.length
        · have hk1 : (k : Int) < (tree.length : Int) := by omega
          obtain ⟨b, off, Ay, cy, rfl, -, -⟩ := ht.out.at_ hlt
          obtain ⟨b', off', Ay', cy', e, hbK, d⟩ := NodS.at_ (ht.out.keep (Agree.below hb fun b h => h) (fun b h => h)) hlt
          injection e with e
          injection e with e1 e2
          subst e1 e2
          obtain ⟨d0, d1, d2, d3, hyS0⟩ := d
          have hyl := hN.out.2 _ (List.getElem_mem hlt)
          have hstp : Hid (und1 L ++ tree.take (k + 1) = und1 L ++ tree.take k ++ [tree[k]]) := hide (by rw [List.take_succ_eq_append_getElem hlt, List.append_assoc])
          have hMl : (und1 L ++ tree.take k).length ≤ 200000000 := by have := hU1.out; rw [List.length_append, this, List.length_take]; omega
          generalize tree[k] = n at *
          obtain ⟨⟨nk, na, nb⟩, ny⟩ := n
          dsimp only at d0 d1 d2 d3 hyS0 hyl hstp
          generalize und1 L ++ tree.take k = M at *
          have hA := below_allocEq hb (W := Wo.alloc (.cells #[.int .i64 nk, .int .i64 na, .int .i64 nb, .slice Ay' ny.length cy'] 114)) rfl hb.size
          have hO1 := hide (NodO.below hO ((Below.refl Wo.heap.size Wo).alloc (Nat.le_refl _) (.cells #[.int .i64 nk, .int .i64 na, .int .i64 nb, .slice Ay' ny.length cy'] 114)))
          have kA := k0.alloc (.cells #[.int .i64 nk, .int .i64 na, .int .i64 nb, .slice Ay' ny.length cy'] 114)
          have hyS1 := hide (IntS.keep hyS0 (Agree.alloc (K := fun b => b < w.heap.size) (w := Wo) (fun b h => Nat.lt_of_lt_of_le h hb.size) (.cells #[.int .i64 nk, .int .i64 na, .int .i64 nb, .slice Ay' ny.length cy'] 114)) (fun b h => h))
          clear hO hyS0
          go_upto_region 14 with fail
          generalize hWa : Wo.alloc (.cells #[.int .i64 nk, .int .i64 na, .int .i64 nb, .slice Ay' ny.length cy'] 114) = Wa at *
          have nn := Blk.newEq hWa
          have hszA := hA.size
          have hOA := hO1.out
          have hyS := hyS1.out
          clear hWa d0 d1 d2 d3 hO1 hyS1
          have hbA := hA
          generalize u10 = v10 at *
          refine wp_region_tabs w.heap.size [wV (v10), wV (.pointer (some ⟨Wo.heap.size, 0, none⟩)), wV (.agg #[.int .i64 nk, .int .i64 na, .int .i64 nb]), wV (.pointer (some ⟨Wo.heap.size, 3, none⟩)), wV (.slice Ay' ny.length cy'), wI w.heap.size ny, wNd w.heap.size ⟨nk, na, nb⟩ ny, wNs w.heap.size ⟨nk, na, nb⟩ ny, wND w.heap.size (M ++ [⟨⟨nk, na, nb⟩, ny⟩]), wND w.heap.size (M ++ [⟨⟨nk, na, nb⟩, ny⟩]), wA (wX v10 (wND w.heap.size M)) (wK Wo.heap.size 114 #[.int .i64 nk, .int .i64 na, .int .i64 nb, .slice Ay' ny.length cy'])] [[], [], [1,10], [], [3,10], [4], [2,5], [6], [0,7,10], [8]] [[], [], [], [], [], [], [], [], [114], []] [[], [], [], [], [], [3], [3], [114, 3], [114, 3], [114, 3], [114, 3, 114]] [] [114] hszA (by kernel_rfl) (by kernel_rfl) (by kernel_rfl) (by kernel_rfl) (by kernel_rfl) (by kernel_rfl) rfl ⟨fun _ => ⟨hOA, nn⟩, trivial⟩ (by kernel_rfl) (by kernel_rfl) ?hstep ?hend
          case hstep =>
            simp only [StepsT, WantsT, RsT, acV, wV, wO, wS, wB, wU, wX, wK, wA, wI, wNd, wNs, wND, updV, gA, gZ, gS, List.getD_cons_zero, List.getD_cons_succ, List.getD_nil, Act.put, sA, sZ, sS, Nat.zero_add, Nat.reduceAdd, if_true, and_true]
            refine ⟨?_, ?_, ?o2, ?_, ?o4, ?o5, ?o6, ?o7, ?o8, ?o9⟩
            all_goals intro vs W R hR hT hd
            all_goals have hsz := Nat.le_trans hszA hT.size
            all_goals have hbW := hbA.trans hT.below
            case o2 =>
              obtain ⟨e1, -, kn⟩ := hd
              rw [e1]
              have c0 := Blk.n0 kn
              have c1 := Blk.n1 kn
              have c2 := Blk.n2 kn
              go_wp2
              exact ⟨rfl, _, rfl, hR _ _ rfl (TyW.refl _ _ _)⟩
            case o4 =>
              obtain ⟨e1, -, kn⟩ := hd
              rw [e1]
              have c3 := Blk.n3 kn
              go_wp2
              exact ⟨rfl, _, rfl, hR _ _ rfl (TyW.refl _ _ _)⟩
            case o5 =>
              rw [hd]
              refine wpList_append_flat (enc := Go.Inq.encI) rfl _ _ 27 rfl w.heap.size 3 ii _ 1 8 Tryz.underlying27 hii hii1 hii2 hii3 rfl (by decide) (.slice none 0 0) (fun b => b < w.heap.size) [] rfl (World.ownsRow_nil _ _ _ _) (fun _ => rfl) (.slice Ay' ny.length cy') ny rfl (IntS.keep hyS (Agree.below hT.below fun b h => h) (fun b h => h)) encI_one (by simp [maxLen]; omega) (by simp; omega) hsz ?_
              intro v6 W6 hown6 hgrow6 hat6
              exact ⟨rfl, _, rfl, hR _ _ (show OwnI _ _ _ _ by have q := hown6; rw [List.nil_append] at q; exact q) (TyW.calm ((Below.refl _ _).grown hgrow6 (Nat.le_refl _) (by simp [Value.ownBlock])) hsz)⟩
            case o6 =>
              obtain ⟨e2, o5⟩ := hd
              obtain ⟨Au, cu, e5⟩ := OwnI.form o5
              rw [e5] at o5 ⊢
              rw [e2]
              go_wp2
              exact ⟨rfl, _, rfl, hR _ _ ⟨_, rfl, o5⟩ (TyW.refl _ _ _)⟩
            case o7 =>
              obtain ⟨u, e6, hu⟩ := hd
              obtain ⟨Au, cu, rfl⟩ := own_slice hu
              rw [e6]
              go_wp2
              exact ⟨rfl, _, rfl, hR _ _ ⟨W.heap.size, _, hsz, rfl, Blk.new _ _ _, World.ownsRow.alloc hu _⟩ (TyW.calm ((Below.refl _ _).alloc (Nat.le_refl _) _) hsz)⟩
            case o8 =>
              obtain ⟨e0, ⟨g, u, hg, e7, kg, hu⟩, hO, -⟩ := hd
              rw [e0, e7]
              refine wpList_pushT NodR.stab nod_one rfl _ _ 32 rfl w.heap.size 114 ino _ 4 48 Tryz.underlying32 hino hino1 hino2 hino3 rfl (by decide) [3] (by decide) v10 M rfl hO g _ ⟨⟨nk, na, nb⟩, ny⟩ kg rfl (nodR_own hu) rfl (by unfold maxLen; omega) (by omega) hsz w.heap.size (Nat.le_refl _) ?_
              intro v8 W8 hO8 hT8 hat8
              exact ⟨rfl, _, rfl, hR _ _ hO8 hT8⟩
            case o9 =>
              go_wp2
              exact ⟨rfl, _, rfl, hR _ _ hd (TyW.refl _ _ _)⟩
            all_goals (go_wp2; exact ⟨rfl, _, rfl, hR _ _ (by first | rfl | trivial) (TyW.refl _ _ _)⟩)
          case hend =>
            intro vs W hT hd
            have o9 : NodO W w.heap.size (vs 9) (M ++ [⟨⟨nk, na, nb⟩, ny⟩]) := hd 9 (by simp) (by kernel_rfl)
            have k6 := hT.blk kA (by decide)
            have hb6 := hA.trans hT.below
            simp only [acV, gA, gZ, gS, Act.put, sA, sZ, sS, List.length_cons, List.length_nil, Nat.reduceAdd]
            clear hd hT hyS hOA nn kA hA hbA
            go_wp2
            go_roundw
            case rel => exact ⟨k + 1, by omega, by go_num, by rw [hstp.out]; exact o9, k6, hb6⟩
            case measure => simp [intOf]; omega
        · obtain rfl : k = tree.length := by omega
          rw [List.take_length] at hO
          have hO3 : NodO Wo w.heap.size u10 (und1 L ++ tree ++ und3 H level L 0) := by simpa [und3] using hO
          have hMt : Hid (∀ k, k ≤ L.length → (und1 L ++ tree ++ und3 H level L k).length ≤ 200000000) := hide (fun k hk => by have := hU1.out; rw [List.length_append, List.length_append, this, und3_len]; omega)
          clear hO hlt ht hN
          go_wp2_with fail
          go_loopw [10, 66] (fun s10 s66 wr => ∃ k : Nat, k ≤ L.length ∧ s66 = .int .i64 (k : Int) ∧ NodO wr w.heap.size s10 (und1 L ++ tree ++ und3 H level L k) ∧ Blk wr w.heap.size 24 #[.slice A H.length c] ∧ Below w.heap.size w wr) (fun _ s66 _ => L.length - (intOf s66).toNat)
          case atStart => exact ⟨0, by omega, by go_num, hO3, k0, hb⟩
          case round =>
            clear k0 hb hO3
            obtain ⟨Wo, rfl⟩ : ∃ Wo, Wo = wr := ⟨_, rfl⟩
            obtain ⟨k, hk, rfl, hO, k0, hb⟩ := hrel
            have hk0 : (0 : Int) ≤ (k : Int) := Int.natCast_nonneg _
            by_cases hlt : k < L.length
            · have hk1 : (k : Int) < (L.length : Int) := by omega
              obtain ⟨i, hin⟩ : ∃ i, L.length - 1 - k = i := ⟨_, rfl⟩
              have hi : i < L.length := by omega
              have hie : (L.length : Int) - 1 - (k : Int) = (i : Int) := by omega
              have hi0 : (0 : Int) ≤ (i : Int) := Int.natCast_nonneg _
              have hic : (i : Int) + 1 ≤ (cl : Int) := by have := hcap.out; omega
              have hic2 : i + 1 ≤ cl := by have := hcap.out; omega
              have hic3 : (0 : Int) ≤ (i : Int) + 1 := by omega
              have hstp := hide (hu3.out k)
              rw [hin] at hstp
              rw [hlf.out i hi] at hstp
              have hMl := hMt.out k hk
              have hch1 := hide (hch.out i hi Wo hb)
              have hfu1 := hide (hfu.out i hi)
              have hct1 := hide (hct.out i hi)
              have hcl1 := hide (hcl.out i hi)
              have hCn := hide (show (chosL (L.take (i + 1))).length = i + 1 by rw [chosL_len, List.length_take]; omega)
              have hDn := hide (htn.out i hi)
              obtain ⟨M, hM⟩ : ∃ M, und1 L ++ tree ++ und3 H level L k = M := ⟨_, rfl⟩
              have hstp2 : Hid (und1 L ++ tree ++ und3 H level L (k + 1) = M ++ [⟨zeroC, intsN (findL H.length (fullE H level (chosL (L.take i) ++ [turnB L[i].c])))⟩]) := hide (by rw [hstp.out, ← List.append_assoc, hM])
              rw [hM] at hO hMl
              clear hM hstp
              generalize chosL (L.take (i + 1)) = CL at *
              generalize chosL (L.take i) ++ [turnB L[i].c] = D at *
              generalize L[i].c = lc at *
              obtain ⟨lk, la, lb⟩ := lc
              dsimp only at hct1 hcl1
              have hin2 := hide hin
              clear hin hch hfu hct hcl hcn htn hlf hall hu3 hMt
              go_wp2_with fail
              refine hch1.out.mono ?_
              rintro e w2 ⟨v2, rfl, hv2, hb2⟩
              have hsO : w.heap.size ≤ Wo.heap.size := hb.size
              have hB2 := hb.trans (hb2.mono hsO)
              have hO2 := NodO.below hO hb2
              have k2 := k0.below hb2 k0.lt
              have hvd : OwnC w2.drew Wo.heap.size v2 CL := hv2
              have hOd : NodO w2.drew w.heap.size u10 M := OwnR.drewT NodR.stab hO2
              have hBd := below_drew hB2
              have kd := k2.drew
              clear hch1 hb2 hO hO2 k0 k2 hv2 hB2
              obtain ⟨Av, cv, rfl⟩ := OwnC.form hvd
              have hiC : i < CL.length := by have := hCn.out; omega
              have hiC2 : (i : Int) < (CL.length : Int) := by omega
              obtain ⟨g, cs, rfl, hg, hgl, kg, r0, r1, r2, hturn⟩ := hvd.turn hiC
              have hl1 := hcl1.out hiC
              rw [hl1] at r0 r1 r2 hturn
              have hturn2 := hide (hturn lb la)
              rw [hct1.out] at hturn2
              clear hturn hl1 hcl1 hct1
              obtain ⟨Wd, hWd⟩ : ∃ Wd, w2.drew = Wd := ⟨_, rfl⟩
              rw [hWd] at hvd hOd hBd kd hgl kg hturn2
              have hg1 : w.heap.size ≤ g := Nat.le_trans hsO hg
              have hBt := hide (turnW_below (i := i) (a := .int .i64 lb) (b := .int .i64 la) hBd hg1)
              have kt := hide (turnW_far (i := i) (a := .int .i64 lb) (b := .int .i64 la) kd (blk_ne kd kg (by decide)))
              have hOt := hide ((OwnR.setT NodR.stab (OwnR.setT NodR.stab hOd kg (by decide) (by decide) (i := i * 3 + 1) (.int .i64 lb)) (kg.set_ (i * 3 + 1) (.int .i64 lb)) (by decide) (by decide) (i := i * 3 + 2) (.int .i64 la)))
              have r1' := kg.cell (i * 3 + 1)
              have r2' := kg.cell (i * 3 + 2)
              rw [r1] at r1'
              rw [r2] at r2'
              have f1 := kg.frozen (i * 3 + 1)
              have f2 := kg.frozen (i * 3 + 2)
              have kg2 := kg.set_ (i * 3 + 1) (.int .i64 lb)
              have r3' := kg2.cell (i * 3 + 2)
              have f3 := kg2.frozen (i * 3 + 2)
              rw [show (cs.setIfInBounds (i * 3 + 1) (.int .i64 lb))[i * 3 + 2]? = cs[i * 3 + 2]? from Array.getElem?_setIfInBounds_ne (by omega), r2] at r3'
              rw [← hWd] at r1' r2' f1 f2 r3' f3
              have r4' : (w2.setCell ⟨g, i * 3 + 1, none⟩ (.int .i64 lb)).cell? ⟨g, i * 3 + 2, none⟩ = some (.int .i64 lb) := r3'
              have f4 : (w2.setCell ⟨g, i * 3 + 1, none⟩ (.int .i64 lb)).frozen? ⟨g, i * 3 + 2, none⟩ = false := f3
              have r5' : w2.cell? ⟨g, i * 3 + 1, none⟩ = some (.int .i64 la) := r1'
              have r6' : w2.cell? ⟨g, i * 3 + 2, none⟩ = some (.int .i64 lb) := r2'
              have f5 : w2.frozen? ⟨g, i * 3 + 1, none⟩ = false := f1
              have f6 : w2.frozen? ⟨g, i * 3 + 2, none⟩ = false := f2
              clear r3' f3
              clear kg2
              replace hWd := hide hWd
              replace hvd := hide hvd
              replace hOd := hide hOd
              replace hBd := hide hBd
              replace kd := hide kd
              replace kg := hide kg
              clear r0 r1 r2 hvd hOd hBd kd kg
              go_upto_region 21 with fail
              refine wp_region_plan [0, 1, 2, 3, 4, 5, 6, 7, 8, 9, 10, 11, 12, 13, 14, 15] [16, 17, 18, 19] (by kernel_rfl) (by kernel_rfl) (fun _ _ d _ _ h => by cases d <;> exact h) ?_
              simp only [List.filterMap_cons, List.filterMap_nil, gZ, gS]
              repeat still_step
              refine wpStill_nil ?_
              go_upto_region 22 with fail
              have hWd := hWd.out
              subst hWd
              generalize hWt : ((w2.setCell ⟨g, i * 3 + 1, none⟩ (.int .i64 lb)).setCell ⟨g, i * 3 + 2, none⟩ (.int .i64 la)).drew = Wt
              have bt : Below w.heap.size w Wt := by rw [← hWt]; exact hBt.out
              have kt2 : Blk Wt w.heap.size 24 #[.slice A H.length c] := by rw [← hWt]; exact kt.out
              have ot : NodO Wt w.heap.size u10 M := by rw [← hWt]; exact hOt.out
              have ct : OwnC Wt Wo.heap.size (.slice (some ⟨g, 0, none⟩) CL.length cv) D := by rw [← hWt]; exact hturn2.out
              have hDC : D.length = CL.length := by rw [hDn.out, hCn.out]
              have hfc := hfu1.out Wt bt (some ⟨g, 0, none⟩) cv (by rw [hDC]; exact ct.sl (K := Old Wt) fun g _ h => h)
              rw [hDC] at hfc
              have hst := bt.size
              replace hfc := hide hfc
              have hfi1 := hide (hfi.out H.length (fullE H level D))
              generalize fullE H level D = E at *
              have c0 := Blk.n0 kt2
              clear hWt hBt kt hOt hturn2 hDC hfu1 r1' r2' f1 f2 r4' f4 r5' r6' f5 f6 hCn hDn hiC hiC2 hgl ct hfi
              go_wp2_with fail
              refine hfc.out.mono ?_
              rintro e w3 ⟨g3, hg3, rfl, kg3, hb3⟩
              have hB3 := bt.trans (hb3.mono hst)
              have o3 := NodO.below ot hb3
              have k3 := kt2.below hb3 kt2.lt
              obtain ⟨W4, hW4⟩ : ∃ W4, w3.alloc (.cells #[.int .i64 H.length, .slice (some ⟨g3, 0, none⟩) H.length H.length] 56) = W4 := ⟨_, rfl⟩
              have hb4 := below_allocEq (Below.refl w3.heap.size w3) hW4 (Nat.le_refl _)
              have hB4 := hB3.trans (hb4.mono hB3.size)
              have o4 := NodO.below o3 hb4
              have k4 := k3.below hb4 k3.lt
              have kb4 := Blk.newEq hW4
              have hfc2 := hide (hfi1.out g3 W4 hB4 (kg3.allocEq hW4) h64)
              have x0 := Blk.n0 kb4
              have x1 := Blk.n1 kb4
              replace hW4 := hide hW4
              have hs4 := hB4.size
              clear hfc c0 kt2 ot hb3 hfi1 hB3 o3 k3 kb4 kg3 hst bt
              go_upto_region 23 with fail
              rw [hW4.out]
              go_wp2_with fail
              refine hfc2.out.mono ?_
              rintro e w5 ⟨v5, rfl, hv5, hb5⟩
              have hB5 := hB4.trans (hb5.mono hs4)
              have o5 := hide (NodO.below o4 hb5)
              have k5 := k4.below hb5 k4.lt
              have hv6 : OwnI w5 w.heap.size v5 (intsN (findL H.length E)) := own_baseT hv5 hs4
              obtain ⟨A5, c5, rfl⟩ := hv6.form
              have hrow := hide (nodR_own (k := 0) (a := 0) (b := 0) hv6)
              have hs5 := hB5.size
              generalize intsN (findL H.length E) = FL at *
              obtain ⟨Av10, cv10, hu10⟩ := OwnR.form o5.out
              subst hu10
              clear hfc2 x0 x1 hW4 hb5 hb4 o4 k4 hv5 hv6 hs4 hB4
              go_wp2_with (at_builtin; refine wpList_pushR NodR.stab nod_one rfl _ _ 32 rfl w.heap.size 114 ino _ 4 48 Tryz.underlying32 hino hino1 hino2 hino3 rfl (by decide) [3] (by decide) (.slice Av10 M.length cv10) M rfl o5.out _ ⟨⟨0, 0, 0⟩, FL⟩ rfl hrow.out rfl (by unfold maxLen; omega) (by omega) hs5 w w.heap.size (Nat.le_refl _) hB5 ?_; intro v7 w7 hown7 hag7 hb7 hat7 hkp7)
              have k7 := hkp7 _ _ _ k5 (by decide)
              go_wp2
              go_roundw
              case rel => exact ⟨k + 1, by omega, by go_num, by rw [hstp2.out]; exact hown7, k7, hb7⟩
              case measure => simp [intOf]; omega
            · obtain rfl : k = L.length := by omega
              rw [hall.out] at hO
              clear hch hfu hct hcl hcn htn hlf hu3 hMt hfi
              go_wp2
              go_ret2
              exact ⟨_, rfl, hO, hb⟩
end Go.Proofs.YtjomijnbnbideaaGreatDoor
