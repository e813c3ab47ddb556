/- Layer 2 (crc): a maker, its table, sync.Once in one goroutine, the sums. -/
import Derived.Test.YtkljeefncopodaaGreatCrcA
import Derived.Test.YtkljeefncopodaaGreatStep
import Derived.Defers
import Derived.Laws.Pointers
import Derived.Laws.LoneSync
import Derived.RegionTactic
import Derived.RegionCalls
import Derived.ChangeAlike
import Derived.Laws.NewBlocks
namespace Go.Proofs.YtkljeefncopodaaGreat
open Go.RowKit
set_option linter.unusedSimpArgs false
set_option linter.unusedVariables false
set_option maxRecDepth 20000

def tabAt (k : Nat) : List Value := (List.range 256).map (fun j => .int .u32 ((if j < k then crcByte j else 0 : Nat)))
def mkR (d s m : Value) (k : Nat) (q : Value) : List Value := d :: s :: m :: (tabAt k ++ [q])
theorem zeroMaker : Tryz.zeroCells230 = (mkR (.int .u32 0) (.int .i32 0) (.int .u32 0) 0 (.int .i64 0)).toArray := by kernel_rfl
theorem new_any (w : World) : Calls Tryz.prog 125 #[] w fun e w' => e = .returned (.pointer (some ⟨w.heap.size, 0, none⟩)) ∧ BoxW w.heap.size (mkR (.int .u32 0) (.int .i32 0) (.int .u32 0) 0 (.int .i64 0)) 230 w' ∧ Below w.heap.size w w' ∧ w'.heap.size = w.heap.size + 1 := by
  have HZ := Lib.hid' zeroMaker
  go_enter Tryz.func125, Tryz.ntmps125
  go_wp2
  go_ret
  refine ⟨rfl, ?_, by go_grown, by simp⟩
  rw [HZ.out]
  exact BoxW.start _ _ _
theorem tab_len (k : Nat) : (tabAt k).length = 256 := by simp [tabAt]
theorem tab_set (k : Nat) (hk : k < 256) : (tabAt k).set k (.int .u32 (crcByte k : Nat)) = tabAt (k + 1) := by
  apply List.ext_getElem
  · simp [tabAt]
  · intro j h1 h2
    have hj : j < 256 := by simpa [tabAt] using h2
    rw [List.getElem_set]
    split
    · rename_i h; subst h; simp [tabAt]
    · rename_i h
      simp only [tabAt, List.getElem_map, List.getElem_range]
      by_cases h3 : j < k
      · rw [if_pos h3, if_pos (by omega)]
      · rw [if_neg h3, if_neg (by omega)]
theorem mkR_set (d s m q : Value) (k : Nat) (hk : k < 256) : (mkR d s m k q).set (3 + k) (.int .u32 (crcByte k : Nat)) = mkR d s m (k + 1) q := by
  unfold mkR
  rw [show 3 + k = k + 1 + 1 + 1 from by omega]
  simp only [List.set_cons_succ]
  rw [List.set_append_left _ _ (by rw [tab_len]; exact hk), tab_set k hk]
theorem mkR_get (d s m q : Value) (n k : Nat) (hk : k < 256) : (mkR d s m n q)[3 + k]? = some (.int .u32 ((if k < n then crcByte k else 0 : Nat))) := by
  unfold mkR
  rw [show 3 + k = k + 1 + 1 + 1 from by omega]
  simp only [List.getElem?_cons_succ]
  rw [List.getElem?_append_left (by rw [tab_len]; exact hk)]
  simp [tabAt, hk]

set_option maxHeartbeats 1000000 in
theorem fill_any (M : Nat) (d s m q : Value) (w : World) (h : BoxW M (mkR d s m 0 q) 230 w) :
    Calls Tryz.prog 185 #[.pointer (some ⟨M, 0, none⟩)] w fun e w' => e = .returned (.tuple #[]) ∧ BoxW M (mkR d s m 256 q) 230 w' ∧ Fr (fun k => k = M) w w' := by
  have HX := Lib.hid' h
  clear h
  go_enter Tryz.func185, Tryz.ntmps185
  go_wp2_with fail
  go_loopw [3] (fun v3 wr => ∃ k : Nat, v3 = .int .i64 k ∧ k ≤ 256 ∧ Hid (BoxW M (mkR d s m k q) 230 wr) ∧ Hid (Fr (fun k => k = M) w wr)) (fun v3 _ => 256 - (intOf v3).toNat)
  case atStart => exact ⟨0, rfl, Nat.zero_le _, HX, Lib.hid' (Fr.refl _ _)⟩
  case round =>
    obtain ⟨k, rfl, hk, HB, HF⟩ := hrel
    by_cases hlt : k < 256
    · have c0 := HB.out.box.1 0 _ rfl
      have ck := HB.out.box.1 _ _ (mkR_get d s m q k k hlt)
      have fk := HB.out.box.2.1 (3 + k)
      have HC := Lib.hid' (step_any k (by omega))
      go_wp2_with fail

      refine wp_region_held_drew (S := (fun _ => True)) (by kernel_rfl) trivial (fun hH0 => ?_)
      refine wpAnyH_take (i := 0) (oi := _) (v := .pointer (some ⟨M, 0, none⟩)) rfl (by kernel_rfl) (by kernel_rfl) (by kernel_rfl) (fun _ _ _ h => h) (Or.inl ⟨by rfl, ?_⟩) hH0 ?_
      · intro w hSw; go_simp
      simp only [Act.put, List.getElem_toArray, List.getElem_cons_zero, List.getElem_cons_succ, List.setIfInBounds_toArray, List.set_cons_zero, List.set_cons_succ]
      refine wpAnyH_take (i := 1) (oi := _) (v := .int .i64 (k : Int)) rfl (by kernel_rfl) (by kernel_rfl) (by kernel_rfl) (fun _ _ _ h => h) (Or.inl ⟨by rfl, ?_⟩) hH0 ?_
      · intro w hSw; go_simp
      simp only [Act.put, List.getElem_toArray, List.getElem_cons_zero, List.getElem_cons_succ, List.setIfInBounds_toArray, List.set_cons_zero, List.set_cons_succ]
      refine wpAnyH_take (i := 2) (oi := _) (v := .int .i64 (k : Int)) rfl (by kernel_rfl) (by kernel_rfl) (by kernel_rfl) (fun _ _ _ h => h) (Or.inl ⟨by rfl, ?_⟩) hH0 ?_
      · intro w hSw; go_simp
      simp only [Act.put, List.getElem_toArray, List.getElem_cons_zero, List.getElem_cons_succ, List.setIfInBounds_toArray, List.set_cons_zero, List.set_cons_succ]
      refine wpAnyH_take (i := 3) (oi := _) (v := .int .u32 (k : Int)) rfl (by kernel_rfl) (by kernel_rfl) (by kernel_rfl) (fun _ _ _ h => h) (Or.inl ⟨by rfl, ?_⟩) hH0 ?_
      · intro w hSw; go_simp; exact wraps_u32 _ (by omega) (by omega)
      simp only [Act.put, List.getElem_toArray, List.getElem_cons_zero, List.getElem_cons_succ, List.setIfInBounds_toArray, List.set_cons_zero, List.set_cons_succ]
      refine wpAnyH_ready (rs := [4, 5]) (by kernel_rfl) (by simp) (AllReadyH.cons (o := _) rfl (fun K hK => ?_) (AllReadyH.cons (o := _) rfl (fun K hK => ?_) AllReadyH.nil))
      · skip
        go_simp
        refine (HC.out wr.drew).mono ?_
        rintro en w5 ⟨rfl, rfl⟩
        refine hK.out _ _ ?_ (fun hH1 => ?_)
        · trivial
        clear hK K
        refine wpAnyH_ready (rs := [5]) (by kernel_rfl) (by simp) (AllReadyH.cons (o := _) rfl (fun K hK => ?_) AllReadyH.nil)
        go_simp
        refine hK.out _ _ ?_ (fun hH2 => ?_)
        · trivial
        clear hK K
        refine wpAnyH_ready (rs := [6]) (by kernel_rfl) (by simp) (AllReadyH.cons (o := _) rfl (fun K hK => ?_) AllReadyH.nil)
        go_simp
        refine hK.out _ _ ?_ (fun hH3 => ?_)
        · trivial
        clear hK K
        refine wpAnyH_ready (rs := [7]) (by kernel_rfl) (by simp) (AllReadyH.cons (o := _) rfl (fun K hK => ?_) AllReadyH.nil)
        go_simp
        refine hK.out _ _ ?_ (fun hH4 => ?_)
        · trivial
        clear hK K
        refine wpAnyH_ready (rs := [8]) (by kernel_rfl) (by simp) (AllReadyH.cons (o := _) rfl (fun K hK => ?_) AllReadyH.nil)
        go_simp
        refine hK.out _ _ ?_ (fun hH5 => ?_)
        · trivial
        clear hK K
        refine wpAnyH_done (by kernel_rfl) ?_ _
        have HB2 := Lib.hid' (show BoxW M (mkR d s m (k + 1) q) 230 (wr.setCell ⟨M, 3 + k, none⟩ (.int .u32 (crcByte k))).drew by rw [← mkR_set _ _ _ _ _ hlt]; exact (HB.out.set (3 + k) _).drew)
        have HF2 := Lib.hid' (show Fr (fun k => k = M) w (wr.setCell ⟨M, 3 + k, none⟩ (.int .u32 (crcByte k))).drew from (HF.out.trans (fr_set wr M (3 + k) (.int .u32 (crcByte k))) (fun i hi => .inl hi)).trans_below (Below.drew (Below.refl _ _)))
        generalize (wr.setCell ⟨M, 3 + k, none⟩ (.int .u32 (crcByte k))).drew = w2 at *
        go_wp2_with fail
        go_roundw
        case rel => exact ⟨k + 1, by go_num, by omega, HB2, HF2⟩
        case measure => simp [intOf]; omega
      · skip
        go_simp
        refine hK.out _ _ ?_ (fun hH1 => ?_)
        · trivial
        clear hK K
        refine wpAnyH_ready (rs := [4, 6]) (by kernel_rfl) (by simp) (AllReadyH.cons (o := _) rfl (fun K hK => ?_) (AllReadyH.cons (o := _) rfl (fun K hK => ?_) AllReadyH.nil))
        · skip
          go_simp
          refine (HC.out wr.drew).mono ?_
          rintro en w5 ⟨rfl, rfl⟩
          refine hK.out _ _ ?_ (fun hH2 => ?_)
          · trivial
          clear hK K
          refine wpAnyH_ready (rs := [6]) (by kernel_rfl) (by simp) (AllReadyH.cons (o := _) rfl (fun K hK => ?_) AllReadyH.nil)
          go_simp
          refine hK.out _ _ ?_ (fun hH3 => ?_)
          · trivial
          clear hK K
          refine wpAnyH_ready (rs := [7]) (by kernel_rfl) (by simp) (AllReadyH.cons (o := _) rfl (fun K hK => ?_) AllReadyH.nil)
          go_simp
          refine hK.out _ _ ?_ (fun hH4 => ?_)
          · trivial
          clear hK K
          refine wpAnyH_ready (rs := [8]) (by kernel_rfl) (by simp) (AllReadyH.cons (o := _) rfl (fun K hK => ?_) AllReadyH.nil)
          go_simp
          refine hK.out _ _ ?_ (fun hH5 => ?_)
          · trivial
          clear hK K
          refine wpAnyH_done (by kernel_rfl) ?_ _
          have HB2 := Lib.hid' (show BoxW M (mkR d s m (k + 1) q) 230 (wr.setCell ⟨M, 3 + k, none⟩ (.int .u32 (crcByte k))).drew by rw [← mkR_set _ _ _ _ _ hlt]; exact (HB.out.set (3 + k) _).drew)
          have HF2 := Lib.hid' (show Fr (fun k => k = M) w (wr.setCell ⟨M, 3 + k, none⟩ (.int .u32 (crcByte k))).drew from (HF.out.trans (fr_set wr M (3 + k) (.int .u32 (crcByte k))) (fun i hi => .inl hi)).trans_below (Below.drew (Below.refl _ _)))
          generalize (wr.setCell ⟨M, 3 + k, none⟩ (.int .u32 (crcByte k))).drew = w2 at *
          go_wp2_with fail
          go_roundw
          case rel => exact ⟨k + 1, by go_num, by omega, HB2, HF2⟩
          case measure => simp [intOf]; omega
        · skip
          go_simp
          refine hK.out _ _ ?_ (fun hH2 => ?_)
          · trivial
          clear hK K
          refine wpAnyH_ready (rs := [4]) (by kernel_rfl) (by simp) (AllReadyH.cons (o := _) rfl (fun K hK => ?_) AllReadyH.nil)
          go_simp
          refine (HC.out wr.drew).mono ?_
          rintro en w5 ⟨rfl, rfl⟩
          refine hK.out _ _ ?_ (fun hH3 => ?_)
          · trivial
          clear hK K
          refine wpAnyH_ready (rs := [7]) (by kernel_rfl) (by simp) (AllReadyH.cons (o := _) rfl (fun K hK => ?_) AllReadyH.nil)
          go_simp
          refine hK.out _ _ ?_ (fun hH4 => ?_)
          · trivial
          clear hK K
          refine wpAnyH_ready (rs := [8]) (by kernel_rfl) (by simp) (AllReadyH.cons (o := _) rfl (fun K hK => ?_) AllReadyH.nil)
          go_simp
          refine hK.out _ _ ?_ (fun hH5 => ?_)
          · trivial
          clear hK K
          refine wpAnyH_done (by kernel_rfl) ?_ _
          have HB2 := Lib.hid' (show BoxW M (mkR d s m (k + 1) q) 230 (wr.setCell ⟨M, 3 + k, none⟩ (.int .u32 (crcByte k))).drew by rw [← mkR_set _ _ _ _ _ hlt]; exact (HB.out.set (3 + k) _).drew)
          have HF2 := Lib.hid' (show Fr (fun k => k = M) w (wr.setCell ⟨M, 3 + k, none⟩ (.int .u32 (crcByte k))).drew from (HF.out.trans (fr_set wr M (3 + k) (.int .u32 (crcByte k))) (fun i hi => .inl hi)).trans_below (Below.drew (Below.refl _ _)))
          generalize (wr.setCell ⟨M, 3 + k, none⟩ (.int .u32 (crcByte k))).drew = w2 at *
          go_wp2_with fail
          go_roundw
          case rel => exact ⟨k + 1, by go_num, by omega, HB2, HF2⟩
          case measure => simp [intOf]; omega

    · obtain rfl : k = 256 := by omega
      go_wp2_with fail
      go_end0
      exact ⟨rfl, HB.out, HF.out⟩
end Go.Proofs.YtkljeefncopodaaGreat
