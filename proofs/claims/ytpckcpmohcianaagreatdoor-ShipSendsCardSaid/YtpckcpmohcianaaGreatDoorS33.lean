/- Proved here: a part of the proof (33 of 34). -/
import Derived.Test.YtpckcpmohcianaaGreatDoorS8
import Derived.Test.YtpckcpmohcianaaGreatDoorS3
import Derived.Test.YtpckcpmohcianaaGreatDoorS7
import Derived.BigQuiet
import Derived.Deep.AppendLies
set_option linter.unusedSimpArgs false
set_option linter.unusedVariables false
set_option maxRecDepth 100000
namespace Go.Proofs.YtpckcpmohcianaaGreatDoor
open Go.RowKit

/-- 'append(out, l..)' as one step of a region that draws its order -/
theorem step_slP {P : Program} {t e size bytes : Nat} (T : ElemT P t e size bytes) {w : World} {ops : Array Oper} {o : Oper} {a : Act} {K : Act → World → Prop} {Q : Exit → Act → World → Prop} {Z : Prop} (hgd : o.guard = none) (s x : Operand)
  (ho : o.op = .call { callee := .builtin .append, args := #[s, x], argTypes := #[t, t] })
  (base n : Nat) (xs : List Value) (v : Value) (hs : a.eval s = v) (hown : w.ownsRow base e size v n xs)
  (m : Nat) (news : List Value) (ad : Addr) (c : Nat) (hx : a.eval x = .slice (some ad) m c) (hsrc : SlV w (.slice (some ad) m c) m news) (hl : news.length = m * size) (h1 : ∀ u ∈ news, u.oneCell' = true)
  (hbytes : (n + m) * bytes ≤ 140737488355328) (hbase : base ≤ w.heap.size)
  (h : ∀ a' c' w', w'.ownsRow base e size (.slice a' (n + m) c') (n + m) (xs ++ news) → Fr (fun k => v.ownBlock = some k) w w' → K (a.put o.dst (.slice a' (n + m) c')) w') :
  if Region.wanted o (yielded ops a.tmps) = true then Oper.wp P o a w K Q else Z := by
 have hw : Region.wanted o (yielded ops a.tmps) = true := by simp [Region.wanted, hgd]
 rw [if_pos hw]
 obtain ⟨i, z, a1, a2, a3, a4, a5⟩ := T.info
 have hpos := T.posb
 have hml : n + m ≤ maxLen := by
  have : (n + m) * 1 ≤ (n + m) * bytes := Nat.mul_le_mul_left _ hpos
  unfold maxLen; omega
 obtain ⟨ao, c', he, k1, k2, k0, k3⟩ := hsrc
 cases he
 refine wp_append_own w s x t ho base e i z size bytes T.under a1 a2 a3 a4 a5 T.pos v n xs hs hown ad m c news hx hl
  (fun j u hu => by obtain ⟨p, hp, hc⟩ := k3 j u hu; cases hp; exact hc) h1 hml hbytes hbase (fun v' w' r1 r2 _ => ?_)
 obtain ⟨a', c2, rfl⟩ := own_shape r1
 exact h a' c2 w' r1 ⟨r2.os, r2.tape, r2.output, r2.size, fun k hk hn => r2.block k hk (fun e => hn e.symm)⟩

end Go.Proofs.YtpckcpmohcianaaGreatDoor

namespace Go.Proofs.YtpckcpmohcianaaGreatDoor
open Go.RowKit

theorem ins_rise {l : List Int} {u : Int} {j : Nat} (hr : l.Pairwise (· < ·)) (h1 : ∀ y ∈ l.take j, y < u) (h2 : ∀ y ∈ l.drop j, u < y) : (l.take j ++ [u] ++ l.drop j).Pairwise (· < ·) := by
 have hr' : (l.take j ++ l.drop j).Pairwise (· < ·) := by rw [List.take_append_drop]; exact hr
 obtain ⟨hA, hB, hAB⟩ := List.pairwise_append.1 hr'
 refine List.pairwise_append.2 ⟨List.pairwise_append.2 ⟨hA, List.pairwise_singleton _ _, fun a ha b hb => ?_⟩, hB, fun a ha b hb => ?_⟩
 ·simp only [List.mem_singleton] at hb; subst hb; exact h1 a ha
 ·rcases List.mem_append.1 ha with ha | ha
  ·exact hAB a ha b hb
  ·simp only [List.mem_singleton] at ha; subst ha; exact h2 b hb
theorem drop_gt {l : List Int} {j : Nat} {u : Int} (hr : l.Pairwise (· < ·)) (hj : j < l.length) (h : u < l[j]) : ∀ y ∈ l.drop j, u < y := by
 have h1 : (l.drop j).Pairwise (· < ·) := hr.sublist (List.drop_sublist _ _)
 rw [List.drop_eq_getElem_cons hj] at h1 ⊢
 intro y hy
 rcases List.mem_cons.1 hy with rfl | hy
 ·exact h
 ·have := (List.pairwise_cons.1 h1).1 y hy; omega
theorem ins_mem {l : List Int} {u x : Int} {j : Nat} : x ∈ l.take j ++ [u] ++ l.drop j ↔ (x ∈ l ∨ x = u) := by
 have h : x ∈ l.take j ++ l.drop j ↔ x ∈ l := by rw [List.take_append_drop]
 rw [← h]
 simp only [List.mem_append, List.mem_singleton]
 constructor
 ·rintro ((h | h) | h)
  ·exact .inl (.inl h)
  ·exact .inr h
  ·exact .inl (.inr h)
 ·rintro ((h | h) | h)
  ·exact .inl (.inl h)
  ·exact .inr h
  ·exact .inl (.inr h)
theorem ins_len {l : List Int} {u : Int} {j : Nat} : (l.take j ++ [u] ++ l.drop j).length = l.length + 1 := by
 simp only [List.length_append, List.length_take, List.length_drop, List.length_cons, List.length_nil]; omega
theorem units_eq {l X : List Int} (hr : l.Pairwise (· < ·)) (hm : ∀ x, x ∈ l ↔ x ∈ X) : l = unitsOf X :=
 rise_ext' hr (show (unitsOf X).Pairwise (· < ·) from dedS_rise _ (sortI_sorted _)) (fun x => by rw [hm x, unitsOf_mem])
theorem zs_take {w : World} {a : Option Addr} {n c : Nat} {l : List Int} (h : Zs w (.slice a n c) l) {k : Nat} (hk : k ≤ l.length) : SlV w (.slice a k c) k (zVs (l.take k)) := by
 obtain ⟨a', c', he, h1, h2, h0, h3⟩ := h
 simp only [Value.slice.injEq] at he
 obtain ⟨rfl, rfl, rfl⟩ := he
 refine ⟨a, c, rfl, by omega, h2, h0, fun j u hu => h3 j u ?_⟩
 have : zVs (l.take k) = (zVs l).take k := by simp [zVs, List.map_take]
 rw [this, List.getElem?_take] at hu
 split at hu
 ·exact hu
 ·cases hu
theorem zs_drop {w : World} {b off n c : Nat} {l : List Int} (h : Zs w (.slice (some ⟨b, off, none⟩) n c) l) {k : Nat} (hk : k ≤ l.length) : SlV w (.slice (some ⟨b, off + k, none⟩) (l.length - k) (c - k)) (l.length - k) (zVs (l.drop k)) := by
 obtain ⟨a', c', he, h1, h2, h0, h3⟩ := h
 simp only [Value.slice.injEq] at he
 obtain ⟨rfl, rfl, rfl⟩ := he
 have hadd : ∀ b o j : Nat, (⟨b, o, none⟩ : Addr).add j = ⟨b, o + j, none⟩ := fun b o j => by unfold Addr.add; split <;> simp_all
 refine ⟨some ⟨b, off + k, none⟩, c - k, rfl, by omega, by omega, by simp, fun j u hu => ⟨_, rfl, ?_⟩⟩
 have : zVs (l.drop k) = (zVs l).drop k := by simp [zVs, List.map_drop]
 rw [this, List.getElem?_drop] at hu
 obtain ⟨p, hp, hc⟩ := h3 (k + j) u hu
 cases hp
 rw [hadd] at hc
 rw [hadd, Nat.add_assoc]; exact hc
/-- so far -/
structure USo (l : List Int) (S : Int → Prop) (n : Nat) : Prop where
 rise : l.Pairwise (· < ·)
 mem : ∀ x, x ∈ l ↔ S x
 len : l.length ≤ n
set_option maxHeartbeats 4000000 in
theorem runits11_any (e : Int) (a : Option Addr) (c : Nat) (X : List Ch) (w : World) (h : Chs w a c X) (ht : (flatC X).length ≤ 1048576) :
  Calls Tryz.prog 49 #[pjV e a c X] w (OwnR w.heap.size 3 1 (unitsOf (flatC X)).length (zVs (unitsOf (flatC X))) w) := by
 have HS := Lib.hid' h
 have hlen := h.len
 clear h
 have HT := Lib.hid' ht
 have HV := Zh (show pjV e a c X = .agg #[.int .i64 e, .slice a X.length c] from rfl)
 rw [HV.out]
 clear ht
 go_enter Tryz.func49, Tryz.ntmps49
 go_wp2_with fail
 have HG := Zh (show Below w.heap.size w ((w.alloc (.cells #[.int .i64 e, .slice a X.length c] 30)).alloc (.cells #[] 3)) by go_grown)
 have HO := Zh (show ((w.alloc (.cells #[.int .i64 e, .slice a X.length c] 30)).alloc (.cells #[] 3)).ownsRow w.heap.size 3 1 (.slice (some ⟨w.heap.size + 1, 0, none⟩) 0 0) 0 [] from by
  have := own_empty (w.alloc (.cells #[.int .i64 e, .slice a X.length c] 30)) 3 1
  rw [show (w.alloc (.cells #[.int .i64 e, .slice a X.length c] 30)).heap.size = w.heap.size + 1 by simp] at this
  exact own_base this (by omega))
 generalize ((w.alloc (.cells #[.int .i64 e, .slice a X.length c] 30)).alloc (.cells #[] 3)) = w1 at *
 go_loopw [3, 14] (fun v3 v14 wr => ∃ (k : Nat) (l : List Int) (g c' : Nat), v14 = .int .i64 k ∧ k ≤ X.length ∧ v3 = .slice (some ⟨g, 0, none⟩) l.length c' ∧ Hid (USo l (fun x => x ∈ flatC (X.take k)) (flatC (X.take k)).length) ∧ Hid (wr.ownsRow w.heap.size 3 1 (.slice (some ⟨g, 0, none⟩) l.length c') l.length (zVs l)) ∧ Hid (Below w.heap.size w wr)) (fun _ v14 _ => X.length - (intOf v14).toNat)
 case atStart => exact ⟨0, [], w.heap.size + 1, 0, rfl, Nat.zero_le _, rfl, Lib.hid' ⟨.nil, by simp [flatC], by simp⟩, HO, HG⟩
 case round =>
  clear HO HG
  obtain ⟨k, l, g, c', rfl, hk, rfl, HU, HO, HB⟩ := hrel
  by_cases hlt : k < X.length
  ·obtain ⟨b, off, rfl, hb, hcc, hz⟩ := (HS.out.below (Nat.le_refl _) HB.out).at hlt
   have HZW := Zh (HS.out.each _ (List.getElem_mem hlt))
   have HFT := Zh (flat_take hlt)
   have HFL := Zh (show (flatC (X.take k)).length + X[k].1.length ≤ 1048576 by have h1 := flat_take_le X (k + 1); have h2 := HT.out; rw [flat_take hlt, List.length_append] at h1; omega)
   clear hz
   generalize X[k] = y at *
   obtain ⟨ys, ya, yc⟩ := y
   simp only at hcc HFT HFL
   have HZ := Zh (show Zs w (.slice ya ys.length yc) ys from HZW.out)
   obtain ⟨F, hF⟩ : ∃ F, F = flatC (X.take k) := ⟨_, rfl⟩
   rw [← hF] at HFT HFL HU
   have hyl : ys.length ≤ 1048576 := by have := HFL.out; omega
   clear hF HZW
   go_wp2_with fail
   clear hb hcc
   go_loopw [3, 20] (fun v3 v20 wr => ∃ (j : Nat) (l : List Int) (g c' : Nat), v20 = .int .i64 j ∧ j ≤ ys.length ∧ v3 = .slice (some ⟨g, 0, none⟩) l.length c' ∧ Hid (USo l (fun x => x ∈ F ++ ys.take j) (F.length + j)) ∧ Hid (wr.ownsRow w.heap.size 3 1 (.slice (some ⟨g, 0, none⟩) l.length c') l.length (zVs l)) ∧ Hid (Below w.heap.size w wr)) (fun _ v20 _ => ys.length - (intOf v20).toNat)
   case atStart => exact ⟨0, l, g, c', rfl, Nat.zero_le _, rfl, Zh (by have := HU.out; simpa using this), HO, HB⟩
   case round =>
    clear HU HO HB
    obtain ⟨j, l, g, c', rfl, hj, rfl, HU, HO, HB⟩ := hrel
    by_cases hltj : j < ys.length
    rotate_left
    ·obtain rfl : j = ys.length := by omega
     have HU2 := Zh (show USo l (fun x => x ∈ flatC (X.take (k + 1))) (flatC (X.take (k + 1))).length by
      have := HU.out; rw [List.take_length] at this; rw [HFT.out, List.length_append]; exact this)
     go_wp2_with fail
     go_roundw
     case rel => exact ⟨k + 1, l, g, c', by go_num, by omega, rfl, HU2, HO, HB⟩
     case measure => simp [intOf]; omega
    obtain ⟨b3, off3, rfl, hb3, hc3⟩ := (show Zs wr (.slice ya ys.length yc) ys from SlV.below HZ.out (Nat.le_refl _) HB.out).at hltj
    have HTJ := Zh (show ys.take (j + 1) = ys.take j ++ [ys[j]] from List.take_succ_eq_append_getElem hltj)
    generalize ys[j] = u at *
    have hll : l.length ≤ 1048576 := by have := HU.out.len; have := HFL.out; omega
    have HZL := Zh (show Zs wr (.slice (some ⟨g, 0, none⟩) l.length c') l from SlV.of_own HO.out)
    have hcap : l.length ≤ c' := by obtain ⟨_, _, he, h1, h2, _⟩ := HZL.out; cases he; exact h1
    go_wp2_with fail
    clear hb3 hc3
    go_loop [8] (fun v8 => ∃ i : Nat, v8 = .int .i64 i ∧ i ≤ l.length ∧ Hid (∀ y ∈ l.take i, y < u)) (fun v8 => l.length - (intOf v8).toNat)
    case atStart => exact ⟨0, rfl, Nat.zero_le _, Zh (by simp)⟩
    case round =>
     obtain ⟨i, rfl, hi, HI⟩ := hrel
     have HMEM := Zh (show ∀ l' : List Int, (∀ x, x ∈ l' ↔ (x ∈ l ∨ x = u)) → ∀ x, x ∈ l' ↔ x ∈ F ++ ys.take (j + 1) from fun l' h x => by
      rw [h x, HU.out.mem x, HTJ.out, ← List.append_assoc, List.mem_append (a := x) (s := F ++ ys.take j)]; simp only [List.mem_singleton])
     by_cases hlti : i < l.length
     ·obtain ⟨bg, og, hga, hbg, hcg⟩ := HZL.out.at hlti
      simp only [Option.some.injEq, Addr.mk.injEq, and_true] at hga
      obtain ⟨rfl, rfl⟩ := hga
      have HLI := Zh (show l.take (i + 1) = l.take i ++ [l[i]] from List.take_succ_eq_append_getElem hlti)
      have HGT := Zh (fun h => drop_gt (u := u) HU.out.rise hlti h)
      have HML := Zh (List.getElem_mem hlti)
      generalize l[i] = y at *
      simp only [Nat.zero_add] at hcg
      by_cases hyu : y < u
      ·have HI2 := Zh (show ∀ z ∈ l.take (i + 1), z < u by
        rw [HLI.out]; intro z hz; rcases List.mem_append.1 hz with hz | hz
        ·exact HI.out z hz
        ·simp only [List.mem_singleton] at hz; subst hz; exact hyu)
       go_wp2_with fail
       go_round
       case rel => exact ⟨i + 1, by go_num, by omega, HI2⟩
       case measure => simp [intOf]; omega
      by_cases hye : y = u
      ·have HU2 := Zh (show USo l (fun x => x ∈ F ++ ys.take (j + 1)) (F.length + (j + 1)) from
        ⟨HU.out.rise, HMEM.out l (fun x => ⟨.inl, fun h => h.elim id (fun h => by rw [h, ← hye]; exact HML.out)⟩), by have := HU.out.len; omega⟩)
       subst hye
       have hb1 : decide (y < y) = false := decide_eq_false (by omega)
       go_wp2_with fail
       go_roundw
       case rel => exact ⟨j + 1, l, g, c', by go_num, by omega, rfl, HU2, HO, HB⟩
       case measure => simp [intOf]; omega
      have HD := Zh (show ∀ z ∈ l.drop i, u < z from HGT.out (by omega))
      have hyb : (y == u) = false := by rw [beq_eq_false_iff_ne]; exact hye
      clear hye HGT HML HLI
      have HU2 := Zh (show USo (l.take i ++ [u] ++ l.drop i) (fun x => x ∈ F ++ ys.take (j + 1)) (F.length + (j + 1)) from
       ⟨ins_rise HU.out.rise HI.out HD.out, HMEM.out _ (fun x => ins_mem), by rw [ins_len]; have := HU.out.len; omega⟩)
      have hzr := HB.out.size
      obtain ⟨L0, hL0⟩ : ∃ L0, L0 = wr.heap.size := ⟨_, rfl⟩
      have HL0 := Lib.hid' hL0
      have hgb : Below L0 wr (wr.alloc (.cells #[] 3)) := by rw [hL0]; go_grown
      have HOA := Zh (show (wr.alloc (.cells #[] 3)).ownsRow L0 3 1 (.slice (some ⟨L0, 0, none⟩) 0 0) 0 [] by rw [hL0]; exact own_empty wr 3 1)
      have HTK := Zh (zs_take (SlV.below HZL.out (by rw [← hL0]; exact Nat.le_refl _) hgb) hi)
      have hza : L0 ≤ (wr.alloc (.cells #[] 3)).heap.size := by rw [hL0]; simp
      have HGB := Lib.hid' hgb
      have hic : i ≤ c' := by omega
      clear hgb hL0
      go_wp2_with (at_builtin; refine append_sl etInts rfl (.tmp 50) (.tmp 53) rfl L0 0 [] _ (by rw [HL0.out]; rfl) HOA.out i (zVs (l.take i)) _ rfl HTK.out (by simp [zVs]; omega) (zVs_one _) (by omega) hza ?_)
      intro a5 c5 w5 ho5 hf5
      have HN5 := Zh (show w5.ownsRow L0 3 1 (.slice a5 i c5) i (zVs (l.take i)) by simpa using ho5)
      have HB5 := Zh (hf5.row HOA.out (Nat.le_refl _) hza HGB.out)
      clear ho5 hf5 HOA HTK hza HGB
      have HZ5 := Zh (show Zs w5 (.slice (some ⟨g, 0, none⟩) l.length c') l from SlV.below HZL.out (by rw [← HL0.out]; exact Nat.le_refl _) HB5.out)
      have hz5 : L0 ≤ w5.heap.size := by rw [HL0.out]; exact HB5.out.size
      go_wp2_with fail
      have hicl : i < c' := by omega
      refine wp_region_held_drew (S := (fun _ => True)) (by kernel_rfl) trivial (fun hH0 => ?_)
      refine tA 0 (.slice a5 i c5) rfl hH0 ?_ ?_
      ·intro w hSw; go_simp
      simp only [Act.put, gA, gZ, gS, sA, sZ, sS]
      refine tA 1 (.int .i64 u) rfl hH0 ?_ ?_
      ·intro w hSw; go_simp
      simp only [Act.put, gA, gZ, gS, sA, sZ, sS]
      refine tA 4 (.slice (some ⟨g, 0, none⟩) l.length c') rfl hH0 ?_ ?_
      ·intro w hSw; go_simp
      simp only [Act.put, gA, gZ, gS, sA, sZ, sS]
      refine tA 5 (.int .i64 (i : Int)) rfl hH0 ?_ ?_
      ·intro w hSw; go_simp
      simp only [Act.put, gA, gZ, gS, sA, sZ, sS]
      refine tA 6 (.slice (some ⟨g, i, none⟩) (l.length - i) (c' - i)) rfl hH0 ?_ ?_
      ·intro w hSw; go_simp; (try (intro h; exfalso; omega))
      simp only [Act.put, gA, gZ, gS, sA, sZ, sS]
      refine rD 2 rfl (fun K hK => ?_)
      go_simp
      refine hK.out _ _ ?_ (fun hH1 => ?_)
      ·trivial
      clear hK K
      refine rD 3 rfl (fun K hK => ?_)
      refine step_one2 (w := w5.drew) etInts rfl (.tmp 55) (.tmp 57) rfl [.int .i64 u] rfl L0 i (zVs (l.take i)) (.slice a5 i c5) rfl HN5.out rfl (by simp [Value.oneCell']) (by omega) (by show L0 ≤ w5.heap.size; exact hz5) ?_
      intro a6 c6 w6 ho6 hf6 hq6
      have HF6 := Zh ((Fr.of_below (F := fun q => (Value.slice a5 i c5).ownBlock = some q) (Below.drew (Below.refl _ w5))).trans hf6 (fun i hi => .inl hi))
      have HB6 := Zh (HB5.out.trans (HF6.out.below hz5 (fun q hq => (own_blk HN5.out hq).1)))
      have HN6 := Zh (show w6.ownsRow L0 3 1 (.slice a6 (i + 1) c6) (i + 1) (zVs (l.take i) ++ [.int .i64 u]) from ho6)
      have hz6 : L0 ≤ w6.heap.size := by rw [HL0.out]; exact HB6.out.size
      have HZ6 := Zh (show Zs w6 (.slice (some ⟨g, 0, none⟩) l.length c') l from SlV.below HZL.out (by rw [← HL0.out]; exact Nat.le_refl _) HB6.out)
      clear ho6 hf6 hq6
      refine hK.out _ _ ?_ (fun hH2 => ?_)
      ·trivial
      clear hK K
      refine rD 7 rfl (fun K hK => ?_)
      refine step_slP etInts rfl (.tmp 58) (.tmp 61) rfl L0 (i + 1) (zVs (l.take i) ++ [.int .i64 u]) (.slice a6 (i + 1) c6) rfl HN6.out (l.length - i) (zVs (l.drop i)) ⟨g, i, none⟩ (c' - i) rfl (by have := zs_drop HZ6.out hi; rwa [Nat.zero_add] at this) (by simp [zVs]) (zVs_one _) (by omega) hz6 ?_
      intro a7 c7 w7 ho7 hf7
      have HB7 := Zh (HB6.out.trans (hf7.below hz6 (fun q hq => (own_blk HN6.out hq).1)))
      have HL7 := Zh (show (l.take i ++ [u] ++ l.drop i).length = i + 1 + (l.length - i) by rw [ins_len]; omega)
      have HO7 := Zh (show w7.ownsRow w.heap.size 3 1 (.slice a7 (l.take i ++ [u] ++ l.drop i).length c7) (l.take i ++ [u] ++ l.drop i).length (zVs (l.take i ++ [u] ++ l.drop i)) by
       rw [HL7.out, zVs_append, zVs_append]
       exact own_base ho7 (by rw [HL0.out]; exact hzr))
      have HBW := Zh (HB.out.trans (HB7.out.mono (by rw [HL0.out]; exact hzr)))
      clear ho7 hf7
      refine hK.out _ _ ?_ (fun hH3 => ?_)
      ·trivial
      clear hK K
      refine tA 8 (.slice a7 (i + 1 + (l.length - i)) c7) rfl hH3 ?_ ?_
      ·intro w hSw; go_simp
      simp only [Act.put, gA, gZ, gS, sA, sZ, sS]
      refine wpAnyH_done (by kernel_rfl) ?_ _
      obtain ⟨g7, rfl⟩ : ∃ g7, a7 = some ⟨g7, 0, none⟩ := by
       rcases own_cases HO7.out with ⟨_, h1, _⟩ | ⟨g7, _, h1, _⟩
       ·rw [HL7.out] at h1; omega
       ·exact ⟨g7, h1⟩
      go_wp2_with fail
      go_roundw
      case rel => exact ⟨j + 1, l.take i ++ [u] ++ l.drop i, g7, c7, by go_num, by omega, by rw [HL7.out], HU2, HO7, HBW⟩
      case measure => simp [intOf]; omega
     ·have HD := Zh (show ∀ z ∈ l.drop i, u < z by rw [List.drop_of_length_le (by omega)]; intro z hz; cases hz)
      have HU2 := Zh (show USo (l.take i ++ [u] ++ l.drop i) (fun x => x ∈ F ++ ys.take (j + 1)) (F.length + (j + 1)) from
       ⟨ins_rise HU.out.rise HI.out HD.out, HMEM.out _ (fun x => ins_mem), by rw [ins_len]; have := HU.out.len; omega⟩)
      have hzr := HB.out.size
      obtain ⟨L0, hL0⟩ : ∃ L0, L0 = wr.heap.size := ⟨_, rfl⟩
      have HL0 := Lib.hid' hL0
      have hgb : Below L0 wr (wr.alloc (.cells #[] 3)) := by rw [hL0]; go_grown
      have HOA := Zh (show (wr.alloc (.cells #[] 3)).ownsRow L0 3 1 (.slice (some ⟨L0, 0, none⟩) 0 0) 0 [] by rw [hL0]; exact own_empty wr 3 1)
      have HTK := Zh (zs_take (SlV.below HZL.out (by rw [← hL0]; exact Nat.le_refl _) hgb) hi)
      have hza : L0 ≤ (wr.alloc (.cells #[] 3)).heap.size := by rw [hL0]; simp
      have HGB := Lib.hid' hgb
      have hic : i ≤ c' := by omega
      clear hgb hL0
      go_wp2_with (at_builtin; refine append_sl etInts rfl (.tmp 50) (.tmp 53) rfl L0 0 [] _ (by rw [HL0.out]; rfl) HOA.out i (zVs (l.take i)) _ rfl HTK.out (by simp [zVs]; omega) (zVs_one _) (by omega) hza ?_)
      intro a5 c5 w5 ho5 hf5
      have HN5 := Zh (show w5.ownsRow L0 3 1 (.slice a5 i c5) i (zVs (l.take i)) by simpa using ho5)
      have HB5 := Zh (hf5.row HOA.out (Nat.le_refl _) hza HGB.out)
      clear ho5 hf5 HOA HTK hza HGB
      have HZ5 := Zh (show Zs w5 (.slice (some ⟨g, 0, none⟩) l.length c') l from SlV.below HZL.out (by rw [← HL0.out]; exact Nat.le_refl _) HB5.out)
      have hz5 : L0 ≤ w5.heap.size := by rw [HL0.out]; exact HB5.out.size
      go_wp2_with fail
      by_cases hicc : i = c'
      ·subst hicc
       refine wp_region_held_drew (S := (fun _ => True)) (by kernel_rfl) trivial (fun hH0 => ?_)
       refine tA 0 (.slice a5 i c5) rfl hH0 ?_ ?_
       ·intro w hSw; go_simp
       simp only [Act.put, gA, gZ, gS, sA, sZ, sS]
       refine tA 1 (.int .i64 u) rfl hH0 ?_ ?_
       ·intro w hSw; go_simp
       simp only [Act.put, gA, gZ, gS, sA, sZ, sS]
       refine tA 4 (.slice (some ⟨g, 0, none⟩) l.length i) rfl hH0 ?_ ?_
       ·intro w hSw; go_simp
       simp only [Act.put, gA, gZ, gS, sA, sZ, sS]
       refine tA 5 (.int .i64 (i : Int)) rfl hH0 ?_ ?_
       ·intro w hSw; go_simp
       simp only [Act.put, gA, gZ, gS, sA, sZ, sS]
       refine tA 6 (.slice (some ⟨g, 0, none⟩) 0 0) rfl hH0 ?_ ?_
       ·intro w hSw; go_simp; (try (intro h; exfalso; omega))
       simp only [Act.put, gA, gZ, gS, sA, sZ, sS]
       refine rD 2 rfl (fun K hK => ?_)
       go_simp
       refine hK.out _ _ ?_ (fun hH1 => ?_)
       ·trivial
       clear hK K
       refine rD 3 rfl (fun K hK => ?_)
       refine step_one2 (w := w5.drew) etInts rfl (.tmp 55) (.tmp 57) rfl [.int .i64 u] rfl L0 i (zVs (l.take i)) (.slice a5 i c5) rfl HN5.out rfl (by simp [Value.oneCell']) (by omega) (by show L0 ≤ w5.heap.size; exact hz5) ?_
       intro a6 c6 w6 ho6 hf6 hq6
       have HF6 := Zh ((Fr.of_below (F := fun q => (Value.slice a5 i c5).ownBlock = some q) (Below.drew (Below.refl _ w5))).trans hf6 (fun i hi => .inl hi))
       have HB6 := Zh (HB5.out.trans (HF6.out.below hz5 (fun q hq => (own_blk HN5.out hq).1)))
       have HN6 := Zh (show w6.ownsRow L0 3 1 (.slice a6 (i + 1) c6) (i + 1) (zVs (l.take i) ++ [.int .i64 u]) from ho6)
       have hz6 : L0 ≤ w6.heap.size := by rw [HL0.out]; exact HB6.out.size
       have HZ6 := Zh (show Zs w6 (.slice (some ⟨g, 0, none⟩) l.length i) l from SlV.below HZL.out (by rw [← HL0.out]; exact Nat.le_refl _) HB6.out)
       clear ho6 hf6 hq6
       refine hK.out _ _ ?_ (fun hH2 => ?_)
       ·trivial
       clear hK K
       refine rD 7 rfl (fun K hK => ?_)
       refine step_slP etInts rfl (.tmp 58) (.tmp 61) rfl L0 (i + 1) (zVs (l.take i) ++ [.int .i64 u]) (.slice a6 (i + 1) c6) rfl HN6.out 0 (zVs (l.drop i)) ⟨g, 0, none⟩ 0 rfl (by rw [show l.drop i = [] from List.drop_of_length_le (by omega)]; exact SlV.empty _ _ _ (Nat.zero_le _) (fun _ => rfl)) (by simp [zVs]; omega) (zVs_one _) (by omega) hz6 ?_
       intro a7 c7 w7 ho7 hf7
       have HB7 := Zh (HB6.out.trans (hf7.below hz6 (fun q hq => (own_blk HN6.out hq).1)))
       have HL7 := Zh (show (l.take i ++ [u] ++ l.drop i).length = i + 1 + 0 by rw [ins_len]; omega)
       have HO7 := Zh (show w7.ownsRow w.heap.size 3 1 (.slice a7 (l.take i ++ [u] ++ l.drop i).length c7) (l.take i ++ [u] ++ l.drop i).length (zVs (l.take i ++ [u] ++ l.drop i)) by
        rw [HL7.out, zVs_append, zVs_append]
        exact own_base ho7 (by rw [HL0.out]; exact hzr))
       have HBW := Zh (HB.out.trans (HB7.out.mono (by rw [HL0.out]; exact hzr)))
       clear ho7 hf7
       refine hK.out _ _ ?_ (fun hH3 => ?_)
       ·trivial
       clear hK K
       refine tA 8 (.slice a7 (i + 1 + 0) c7) rfl hH3 ?_ ?_
       ·intro w hSw; go_simp
       simp only [Act.put, gA, gZ, gS, sA, sZ, sS]
       refine wpAnyH_done (by kernel_rfl) ?_ _
       obtain ⟨g7, rfl⟩ : ∃ g7, a7 = some ⟨g7, 0, none⟩ := by
        rcases own_cases HO7.out with ⟨_, h1, _⟩ | ⟨g7, _, h1, _⟩
        ·rw [HL7.out] at h1; omega
        ·exact ⟨g7, h1⟩
       go_wp2_with fail
       go_roundw
       case rel => exact ⟨j + 1, l.take i ++ [u] ++ l.drop i, g7, c7, by go_num, by omega, by rw [HL7.out], HU2, HO7, HBW⟩
       case measure => simp [intOf]; omega
      ·have hicl : i < c' := by omega
       clear hicc
       refine wp_region_held_drew (S := (fun _ => True)) (by kernel_rfl) trivial (fun hH0 => ?_)
       refine tA 0 (.slice a5 i c5) rfl hH0 ?_ ?_
       ·intro w hSw; go_simp
       simp only [Act.put, gA, gZ, gS, sA, sZ, sS]
       refine tA 1 (.int .i64 u) rfl hH0 ?_ ?_
       ·intro w hSw; go_simp
       simp only [Act.put, gA, gZ, gS, sA, sZ, sS]
       refine tA 4 (.slice (some ⟨g, 0, none⟩) l.length c') rfl hH0 ?_ ?_
       ·intro w hSw; go_simp
       simp only [Act.put, gA, gZ, gS, sA, sZ, sS]
       refine tA 5 (.int .i64 (i : Int)) rfl hH0 ?_ ?_
       ·intro w hSw; go_simp
       simp only [Act.put, gA, gZ, gS, sA, sZ, sS]
       refine tA 6 (.slice (some ⟨g, i, none⟩) (l.length - i) (c' - i)) rfl hH0 ?_ ?_
       ·intro w hSw; go_simp; (try (intro h; exfalso; omega))
       simp only [Act.put, gA, gZ, gS, sA, sZ, sS]
       refine rD 2 rfl (fun K hK => ?_)
       go_simp
       refine hK.out _ _ ?_ (fun hH1 => ?_)
       ·trivial
       clear hK K
       refine rD 3 rfl (fun K hK => ?_)
       refine step_one2 (w := w5.drew) etInts rfl (.tmp 55) (.tmp 57) rfl [.int .i64 u] rfl L0 i (zVs (l.take i)) (.slice a5 i c5) rfl HN5.out rfl (by simp [Value.oneCell']) (by omega) (by show L0 ≤ w5.heap.size; exact hz5) ?_
       intro a6 c6 w6 ho6 hf6 hq6
       have HF6 := Zh ((Fr.of_below (F := fun q => (Value.slice a5 i c5).ownBlock = some q) (Below.drew (Below.refl _ w5))).trans hf6 (fun i hi => .inl hi))
       have HB6 := Zh (HB5.out.trans (HF6.out.below hz5 (fun q hq => (own_blk HN5.out hq).1)))
       have HN6 := Zh (show w6.ownsRow L0 3 1 (.slice a6 (i + 1) c6) (i + 1) (zVs (l.take i) ++ [.int .i64 u]) from ho6)
       have hz6 : L0 ≤ w6.heap.size := by rw [HL0.out]; exact HB6.out.size
       have HZ6 := Zh (show Zs w6 (.slice (some ⟨g, 0, none⟩) l.length c') l from SlV.below HZL.out (by rw [← HL0.out]; exact Nat.le_refl _) HB6.out)
       clear ho6 hf6 hq6
       refine hK.out _ _ ?_ (fun hH2 => ?_)
       ·trivial
       clear hK K
       refine rD 7 rfl (fun K hK => ?_)
       refine step_slP etInts rfl (.tmp 58) (.tmp 61) rfl L0 (i + 1) (zVs (l.take i) ++ [.int .i64 u]) (.slice a6 (i + 1) c6) rfl HN6.out (l.length - i) (zVs (l.drop i)) ⟨g, i, none⟩ (c' - i) rfl (by have := zs_drop HZ6.out hi; rwa [Nat.zero_add] at this) (by simp [zVs]) (zVs_one _) (by omega) hz6 ?_
       intro a7 c7 w7 ho7 hf7
       have HB7 := Zh (HB6.out.trans (hf7.below hz6 (fun q hq => (own_blk HN6.out hq).1)))
       have HL7 := Zh (show (l.take i ++ [u] ++ l.drop i).length = i + 1 + (l.length - i) by rw [ins_len]; omega)
       have HO7 := Zh (show w7.ownsRow w.heap.size 3 1 (.slice a7 (l.take i ++ [u] ++ l.drop i).length c7) (l.take i ++ [u] ++ l.drop i).length (zVs (l.take i ++ [u] ++ l.drop i)) by
        rw [HL7.out, zVs_append, zVs_append]
        exact own_base ho7 (by rw [HL0.out]; exact hzr))
       have HBW := Zh (HB.out.trans (HB7.out.mono (by rw [HL0.out]; exact hzr)))
       clear ho7 hf7
       refine hK.out _ _ ?_ (fun hH3 => ?_)
       ·trivial
       clear hK K
       refine tA 8 (.slice a7 (i + 1 + (l.length - i)) c7) rfl hH3 ?_ ?_
       ·intro w hSw; go_simp
       simp only [Act.put, gA, gZ, gS, sA, sZ, sS]
       refine wpAnyH_done (by kernel_rfl) ?_ _
       obtain ⟨g7, rfl⟩ : ∃ g7, a7 = some ⟨g7, 0, none⟩ := by
        rcases own_cases HO7.out with ⟨_, h1, _⟩ | ⟨g7, _, h1, _⟩
        ·rw [HL7.out] at h1; omega
        ·exact ⟨g7, h1⟩
       go_wp2_with fail
       go_roundw
       case rel => exact ⟨j + 1, l.take i ++ [u] ++ l.drop i, g7, c7, by go_num, by omega, by rw [HL7.out], HU2, HO7, HBW⟩
       case measure => simp [intOf]; omega
  ·obtain rfl : k = X.length := by omega
   have HUE := Zh (show l = unitsOf (flatC X) from units_eq HU.out.rise (fun x => by have := HU.out.mem x; rwa [List.take_length] at this))
   go_wp2
   go_ret
   rw [← HUE.out]
   exact ⟨some ⟨g, 0, none⟩, c', rfl, HO.out, HB.out⟩
end Go.Proofs.YtpckcpmohcianaaGreatDoor
