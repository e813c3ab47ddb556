/- Layer 11 (proj): the projection of bytes. -/
import Derived.Test.YtkljeefncopodaaGreatPrjK
import Derived.Test.YtkljeefncopodaaGreatPrjN
import Derived.Test.YtkljeefncopodaaGreatRefV
namespace Go.Proofs.YtkljeefncopodaaGreat
open Go.RowKit
set_option linter.unusedSimpArgs false
set_option linter.unusedVariables false
set_option maxRecDepth 100000

structure PT (w : World) (N bR M : Nat) (e : Int) (r : RD) (a : Option Addr) (c : Nat) (Ks : List Ch) (wr : World) : Prop where
  below : Below w.heap.size w wr
  res : BoxW N [.int .i64 0, .slice none 0 0] 25 wr
  rd : RAt wr bR r
  box : BoxW M [.int .i64 e, .slice a Ks.length c] 25 wr
  own : OwnJ wr (M + 1) a c Ks
  ord : w.heap.size ≤ N ∧ N < bR ∧ bR < M
theorem PT.past {w wr w1 : World} {N bR M : Nat} {e : Int} {r : RD} {a : Option Addr} {c : Nat} {Ks : List Ch} (h : PT w N bR M e r a c Ks wr) (hb : Below wr.heap.size wr w1) : PT w N bR M e r a c Ks w1 :=
  ⟨h.below.trans (hb.mono h.below.size), h.res.below (Nat.le_refl _) hb, h.rd.below (Nat.le_refl _) hb, h.box.below (Nat.le_refl _) hb, h.own.below (Nat.le_refl _) hb, h.ord⟩
theorem PT.read {w wr w1 : World} {N bR M : Nat} {e : Int} {r r' : RD} {a : Option Addr} {c : Nat} {Ks : List Ch} (h : PT w N bR M e r a c Ks wr) (hf : Fr (fun k => k = bR) wr w1) (hr : RAt w1 bR r') : PT w N bR M e r' a c Ks w1 :=
  have ho := h.ord
  ⟨h.below.trans (hf.below h.below.size (fun q hq => by omega)), h.res.fr hf (by omega), hr, h.box.fr hf (by omega), h.own.fr hf (fun k hk => by omega), h.ord⟩
theorem PT.push {w w1 w2 : World} {N bR M C : Nat} {e : Int} {r : RD} {a a2 : Option Addr} {c c2 : Nat} {Ks : List Ch} (h : PT w N bR M e r a c Ks w1) (y : Ch) (hy : w1.ownsRow C 3 1 (chV y) y.1.length (zVs y.1)) (hC : M + 1 ≤ C)
    (hap : ∀ x ∈ Ks, ∀ b, (chV x).ownBlock = some b → b < C)
    (hf : Fr (fun k => (Value.slice a Ks.length c).ownBlock = some k) w1 w2) (ho : w2.ownsRow (M + 1) 81 1 (.slice a2 (Ks.length + 1) c2) (Ks.length + 1) (Ks.map chV ++ [chV y])) :
    PT w N bR M e r a2 c2 (Ks ++ [y]) (w2.setCell ⟨M, 1, none⟩ (.slice a2 (Ks.length + 1) c2)) := by
  have hord := h.ord
  have hM1 : M + 1 ≤ w1.heap.size := h.box.lt
  have hob : ∀ q, (Value.slice a Ks.length c).ownBlock = some q → M + 1 ≤ q := fun q hq => (own_blk h.own.row hq).1
  have hfs : Fr (fun q => q = M) w2 (w2.setCell ⟨M, 1, none⟩ (.slice a2 (Ks.length + 1) c2)) := fr_set _ _ _ _
  have hne : 3 ≠ 81 := by decide
  have ap : ∀ {B' : Nat} {z : Ch}, w1.ownsRow B' 3 1 (chV z) z.1.length (zVs z.1) → w2.ownsRow B' 3 1 (chV z) z.1.length (zVs z.1) := fun hz => own_fr hz hf (own_apart hz h.own.row hne)
  have hJ : OwnJ w2 (M + 1) a2 c2 (Ks ++ [y]) := by
    refine ⟨by rw [List.map_append, List.length_append]; exact ho, fun x hx => ?_, ?_⟩
    · rcases List.mem_append.1 hx with hx | hx
      · exact ap (h.own.each x hx)
      · simp only [List.mem_singleton] at hx; subst hx; exact own_base (ap hy) hC
    · refine List.pairwise_append.2 ⟨h.own.apart, List.pairwise_singleton _ _, fun x hx z hz => ?_⟩
      simp only [List.mem_singleton] at hz; subst hz
      intro b e1 e2
      have := hap x hx b e1
      have := (own_blk hy e2).1
      omega
  have hbx : BoxW M [.int .i64 e, .slice a Ks.length c] 25 w2 := h.box.fr hf (fun hq => by have := hob M hq; omega)
  refine ⟨(h.below.trans (hf.below h.below.size (fun q hq => by have := hob q hq; omega))).setCell (by simp; omega) _, (h.res.fr hf (fun hq => by have := hob N hq; omega)).fr hfs (by omega), (h.rd.high hf (fun q hq => by have := hob q hq; omega)).high hfs (fun q hq => by omega), ?_, hJ.fr hfs (fun q hq => by omega), h.ord⟩
  rw [show (Ks ++ [y]).length = Ks.length + 1 by simp]
  exact hbx.set 1 _
def PTakeR (p : Nat × Pj) (w : World) (en : Ending) (w' : World) : Prop :=
  ∃ e a c K, en = .returned (.tuple #[pjV e a c K, errV p.1]) ∧ docJ e K = p.2 ∧ OwnJ w' w.heap.size a c K ∧ Below w.heap.size w w'
theorem ptake_1 {b : List UInt8} (h : (fone b).1 ≠ 0) : Pj.take b = ((fone b).1, Pj.zero) := by unfold Pj.take; rw [if_pos h]
theorem ptake_2 {b : List UInt8} (h : (fone b).1 = 0) {R : Pj × RD} (hR : Pj.read ⟨(fone b).2, 0⟩ = R) (h2 : R.2.fin ≠ 0) : Pj.take b = (R.2.fin, Pj.zero) := by subst hR; unfold Pj.take; rw [if_neg (by simpa using h), if_pos h2]
theorem ptake_3 {b : List UInt8} (h : (fone b).1 = 0) {R : Pj × RD} (hR : Pj.read ⟨(fone b).2, 0⟩ = R) (h2 : R.2.fin = 0) (h3 : R.1.check ≠ 0) : Pj.take b = (R.1.check, Pj.zero) := by subst hR; unfold Pj.take; rw [if_neg (by simpa using h), if_neg (by simpa using h2), if_pos h3]
theorem ptake_4 {b : List UInt8} (h : (fone b).1 = 0) {R : Pj × RD} (hR : Pj.read ⟨(fone b).2, 0⟩ = R) (h2 : R.2.fin = 0) (h3 : R.1.check = 0) : Pj.take b = (0, R.1) := by subst hR; unfold Pj.take; rw [if_neg (by simpa using h), if_neg (by simpa using h2), if_neg (by simpa using h3)]
theorem chains_next {n k : Nat} {r : RD} {acc : List (List Int)} {C : List (List Int) × RD} (hk : k < n) (h : RD.chains (n - k) r acc = C) : RD.chains (n - (k + 1)) r.chain.2 (acc ++ [r.chain.1]) = C := by
  rw [show n - k = (n - (k + 1)) + 1 by omega] at h
  exact h
theorem chain_le (r : RD) : r.chain.1.length ≤ 4 := by
  unfold RD.chain
  simp only [List.length_map]
  have h1 := nums_len (n := (r.count 4).1) (r := (r.count 4).2) (acc := [])
  have h2 := count_le r 4
  simp only [List.length_nil] at h1
  unfold RD.list; omega
set_option maxHeartbeats 8000000 in
theorem ptake_any (b : List UInt8) (a : Option Addr) (c : Nat) (w : World) (h : Bytes w (.slice a b.length c) b) :
    Calls Tryz.prog 9 #[.slice a b.length c] w (PTakeR (Pj.take b) w) := by
  have HD := Lib.hid' h
  have hbl := bytes_len h
  clear h
  obtain ⟨p, hp⟩ : ∃ p, p = Pj.take b := ⟨_, rfl⟩
  have HP := Lib.hid' hp
  rw [← hp]
  clear hp
  go_enter Tryz.func9, Tryz.ntmps9
  go_wp2_with fail
  obtain ⟨N, hN⟩ : ∃ N, N = w.heap.size := ⟨_, rfl⟩
  have HN := Lib.hid' hN
  have HN1 := Lib.hid' (show BoxW N [.int .i64 0, .slice none 0 0] 25 (w.alloc (.cells #[.int .i64 0, .slice none 0 0] 25)) from by rw [hN]; exact BoxW.start _ _ _)
  have HB1 := Lib.hid' (show Below w.heap.size w (w.alloc (.cells #[.int .i64 0, .slice none 0 0] 25)) by go_grown)
  simp only [← hN]
  clear hN
  generalize w.alloc (.cells #[.int .i64 0, .slice none 0 0] 25) = w1 at *
  have HERR : Hid (∀ wq (err : Nat), Below w.heap.size w wq → p = (err, Pj.zero) → PTakeR p w (.returned (.tuple #[pjV 0 none 0 [], errV err])) ((wq.setCell ⟨N, 0, none⟩ (.int .i64 0)).setCell ⟨N, 1, none⟩ (.slice none 0 0))) := Lib.hid' (by
    intro wq err hb hx
    subst hx
    exact ⟨0, none, 0, [], rfl, rfl, OwnJ.nil _ _, (hb.setCell (by simp [HN.out]) _).setCell (by simp [HN.out]) _⟩)
  have hfo := fone_any b a c w1 (SlV.below HD.out (Nat.le_refl _) HB1.out)
  unfold FOneR at hfo
  obtain ⟨f1, hf1⟩ : ∃ n, n = (fone b).1 := ⟨_, rfl⟩
  obtain ⟨t, ht⟩ : ∃ t, t = (fone b).2 := ⟨_, rfl⟩
  rw [← hf1, ← ht] at hfo
  have HF1 := Lib.hid' hf1
  have HT := Lib.hid' ht
  clear hf1 ht
  refine hfo.mono ?_
  clear hfo
  rintro en w2 ⟨a2, c2, rfl, hy2, hb2⟩
  have HY2 := Lib.hid' hy2
  have HN2 := Lib.hid' (HN1.out.below (Nat.le_refl _) hb2)
  have HB2 := Lib.hid' (HB1.out.trans (hb2.mono HB1.out.size))
  clear hy2 hb2 HN1 HB1
  by_cases hf0 : f1 = 0
  rotate_left
  · have HE := Lib.hid' (HERR.out w2 f1 HB2.out (HP.out.trans (by rw [ptake_1 (by rw [← HF1.out]; exact hf0), ← HF1.out])))
    have n0 := HN2.out.box.1 0 _ rfl
    have n1 := HN2.out.box.1 1 _ rfl
    have g0 := HN2.out.box.2.1 0
    have g1 := HN2.out.box.2.1 1
    rw [errV_pos hf0] at HE ⊢
    clear hf0
    go_wp2
    refine bodyPost_ret (v := .tuple #[pjV 0 none 0 [], .iface 71 (.int .i64 f1)]) (by simp [results, Tryz.results9, go_sem, pjV, n0, n1]) rfl HE.out
  subst hf0
  rw [errV_0]
  go_wp2_with fail
  refine (vNew_any t a2 c2 w2 HY2.out).mono ?_
  rintro en w3 ⟨rfl, hr3, hb3, hz3⟩
  obtain ⟨bR, hbR⟩ : ∃ q, q = w2.heap.size := ⟨_, rfl⟩
  have HR3 := Lib.hid' (show RAt w3 bR ⟨t, 0⟩ by rw [hbR]; exact hr3)
  have HN3 := Lib.hid' (HN2.out.below (Nat.le_refl _) hb3)
  have HB3 := Lib.hid' (HB2.out.trans (hb3.mono HB2.out.size))
  have hNb : N < bR := by rw [hbR]; exact HN2.out.lt
  have hwb : w.heap.size ≤ bR := by rw [hbR]; exact HB2.out.size
  simp only [← hbR]
  clear hr3 hb3 hz3 hbR HN2 HB2 HY2
  obtain ⟨e0, he0⟩ : ∃ e0, e0 = (RD.within ⟨t, 0⟩ 1099511627776).1 := ⟨_, rfl⟩
  obtain ⟨s1, hs1⟩ : ∃ s, s = (RD.within ⟨t, 0⟩ 1099511627776).2 := ⟨_, rfl⟩
  have hwi := within_r_any bR ⟨t, 0⟩ 1099511627776 (by decide) w3 HR3.out
  rw [← he0, ← hs1] at hwi
  have HWI := Lib.hid' hwi
  have HE0 := Lib.hid' he0
  have HS1 := Lib.hid' hs1
  clear hwi he0 hs1
  go_wp2_with fail
  refine HWI.out.mono ?_
  clear HWI
  rintro en w4 ⟨rfl, hr4, hf4⟩
  have HR4 := Lib.hid' hr4
  have HN4 := Lib.hid' (HN3.out.fr hf4 (by omega))
  have HB4 := Lib.hid' (HB3.out.trans (hf4.below HB3.out.size (fun q hq => by omega)))
  clear hr4 hf4 HN3 HB3 HR3
  obtain ⟨mn, hmn⟩ : ∃ m, m = s1.num.1 := ⟨_, rfl⟩
  obtain ⟨s2, hs2⟩ : ∃ s, s = s1.num.2 := ⟨_, rfl⟩
  have hmlt : mn < 18446744073709551616 := by rw [hmn]; exact RD.num_lt s1
  have HMN := Lib.hid' hmn
  have HS2 := Lib.hid' hs2
  clear hmn hs2
  go_wp2_with fail
  have HX5 := Lib.hid' (show BoxW w4.heap.size [.int .i64 (e0 : Int), .slice none 0 0] 25 (w4.alloc (.cells #[.int .i64 (e0 : Int), .slice none 0 0] 25)) from BoxW.start _ _ _)
  have hg : Below w4.heap.size w4 (w4.alloc (.cells #[.int .i64 (e0 : Int), .slice none 0 0] 25)) := by go_grown
  have HP5 := Lib.hid' (show PT w N bR w4.heap.size e0 s1 none 0 [] (w4.alloc (.cells #[.int .i64 (e0 : Int), .slice none 0 0] 25)) from
    ⟨HB4.out.trans (hg.mono HB4.out.size), HN4.out.below (Nat.le_refl _) hg, HR4.out.below (Nat.le_refl _) hg, HX5.out, OwnJ.nil _ _, by have := HN.out; have := HR4.out.lt; omega⟩)
  clear hg HX5 HN4 HR4 HB4
  generalize w4.alloc (.cells #[.int .i64 (e0 : Int), .slice none 0 0] 25) = w5 at *
  generalize w4.heap.size = M at *
  have hnu := number_any bR s1 w5 HP5.out.rd
  rw [← HMN.out, ← HS2.out] at hnu
  refine hnu.mono ?_
  clear hnu
  rintro en w6 ⟨rfl, hr6, hf6⟩
  have HP6 := Lib.hid' (HP5.out.read hf6 hr6)
  clear hr6 hf6 HP5
  obtain ⟨r3, hr3⟩ : ∃ r, r = if 4 < mn then s2.fail 3 else s2 := ⟨_, rfl⟩
  obtain ⟨mm, hmm⟩ : ∃ m, m = min mn 4 := ⟨_, rfl⟩
  obtain ⟨C, hC⟩ : ∃ C, C = RD.chains mm r3 [] := ⟨_, rfl⟩
  have HRD := Lib.hid' (show Pj.read ⟨(fone b).2, 0⟩ = (⟨(e0 : Int), C.1⟩, C.2) from by
    rw [← HT.out, hC, hr3, hmm, HMN.out, HS2.out, HE0.out, HS1.out]; rfl)
  have HC := Lib.hid' (show RD.chains (mm - 0) r3 [] = C from hC.symm)
  have hm4 : mm ≤ 4 := by omega
  have HMM := Lib.hid' (show min (mn : Int) 4 = (mm : Int) by omega)
  clear hmm hC
  have hkey : ∀ w7, PT w N bR M e0 r3 none 0 [] w7 → True := fun _ _ => trivial
  clear hkey
  by_cases h4 : 4 < mn
  · rw [if_pos h4] at hr3
    subst hr3
    go_wp2_with fail
    refine (fail_any bR s2 3 (by decide) w6 HP6.out.rd).mono ?_
    rintro en w7 ⟨rfl, hr7, hf7⟩
    have HP7 := Lib.hid' (HP6.out.read hf7 hr7)
    clear hr7 hf7 HP6
    obtain ⟨r3, hr3⟩ : ∃ r, r = (s2.fail 3) := ⟨_, rfl⟩
    rw [← hr3] at HC HP7
    clear hr3
    go_wp2_with fail
    go_loopw [34] (fun v34 wr => ∃ (k : Nat) (r : RD) (a' : Option Addr) (c' : Nat) (Ks : List Ch), v34 = .int .u64 k ∧ k ≤ mm ∧ Hid (Ks.length = k) ∧ Hid (RD.chains (mm - k) r (Ks.map (·.1)) = C) ∧ Hid (∀ x ∈ Ks, x.1.length ≤ 4) ∧ Hid (PT w N bR M e0 r a' c' Ks wr)) (fun v34 _ => mm - (intOf v34).toNat)
    case atStart => exact ⟨0, r3, none, 0, [], rfl, Nat.zero_le _, Lib.hid' rfl, HC, Lib.hid' (by simp), HP7⟩
    case round =>
      clear HC HP7
      obtain ⟨k, r, a', c', Ks, rfl, hk, HL, HC, HK4, HPT⟩ := hrel
      by_cases hlt : k < mm
      · have HNX := Lib.hid' (chains_next hlt HC.out)
        have hcl := chain_le r
        obtain ⟨l, hl⟩ : ∃ l, l = r.chain.1 := ⟨_, rfl⟩
        obtain ⟨s, hs⟩ : ∃ s, s = r.chain.2 := ⟨_, rfl⟩
        have hch := fun wq => pchain_any bR r wq
        rw [← hl, ← hs] at hch
        rw [← hl, ← hs] at HNX
        rw [← hl] at hcl
        have HCH := Lib.hid' hch
        clear hch hl hs
        have hkl : Ks.length ≤ 4 := by have := HL.out; omega
        have hgo : decide ((k : Int) < min (mn : Int) 4) = true := decide_eq_true (by have := HMM.out; omega)
        go_upto_region 11 with fail
        have HPd := Lib.hid' (HPT.out.past (Below.drew (Below.refl _ _)))
        have x1 := HPT.out.box.box.1 1 _ rfl
        refine wp_region_held_drew (S := (fun _ => True)) (by kernel_rfl) trivial (fun hH0 => ?_)
        refine wpAnyH_take (i := 0) (oi := _) (v := .pointer (some ⟨M, 1, none⟩)) rfl (by kernel_rfl) (by kernel_rfl) (by kernel_rfl) (fun _ _ _ h => h) (Or.inl ⟨by rfl, ?_⟩) hH0 ?_
        · intro w hSw; go_simp
        simp only [Act.put, List.getElem_toArray, List.getElem_cons_zero, List.getElem_cons_succ, List.setIfInBounds_toArray, List.set_cons_zero, List.set_cons_succ]
        refine wpAnyH_take (i := 2) (oi := _) (v := .pointer (some ⟨bR, 0, none⟩)) rfl (by kernel_rfl) (by kernel_rfl) (by kernel_rfl) (fun _ _ _ h => h) (Or.inl ⟨by rfl, ?_⟩) hH0 ?_
        · intro w hSw; go_simp
        simp only [Act.put, List.getElem_toArray, List.getElem_cons_zero, List.getElem_cons_succ, List.setIfInBounds_toArray, List.set_cons_zero, List.set_cons_succ]
        refine wpAnyH_ready (rs := [1, 3]) (by kernel_rfl) (by simp) (AllReadyH.cons (o := _) rfl (fun K hK => ?_) (AllReadyH.cons (o := _) rfl (fun K hK => ?_) AllReadyH.nil))
        · skip
          go_simp
          refine hK.out _ _ ?_ (fun hH1 => ?_)
          · trivial
          clear hK K
          refine wpAnyH_ready (rs := [3]) (by kernel_rfl) (by simp) (AllReadyH.cons (o := _) rfl (fun K hK => ?_) AllReadyH.nil)
          go_simp
          refine (HCH.out _ HPd.out.rd).mono ?_
          rintro en w8 ⟨ya, yc, rfl, hoy, hr8, hf8⟩
          have HP8 := Lib.hid' (HPd.out.read hf8 hr8)
          have HOY := Lib.hid' (show w8.ownsRow wr.heap.size 3 1 (.slice ya l.length yc) l.length (zVs l) from hoy)
          have z1 := HP8.out.box.box.1 1 _ rfl
          have hM8 := HP8.out.box.lt
          clear hoy hr8 hf8
          refine hK.out _ _ ?_ (fun hH2 => ?_)
          · trivial
          clear hK K
          refine wpAnyH_ready (rs := [4]) (by kernel_rfl) (by simp) (AllReadyH.cons (o := _) rfl (fun K hK => ?_) AllReadyH.nil)
          go_simp
          refine hK.out _ _ ?_ (fun hH3 => ?_)
          · trivial
          clear hK K
          refine wpAnyH_ready (rs := [5]) (by kernel_rfl) (by simp) (AllReadyH.cons (o := _) rfl (fun K hK => ?_) AllReadyH.nil)
          refine step_one (w := w8) etRows rfl (.tmp 37) (.tmp 40) rfl [.slice ya l.length yc] rfl (M + 1) Ks.length (Ks.map chV) (.slice a' Ks.length c') rfl HP8.out.own.row rfl (by simp [Value.oneCell']) (by omega) (by omega) ?_
          intro a9 c9 w9 ho9 hf9
          have HP9 := Lib.hid' (HP8.out.push (l, ya, yc) HOY.out HPT.out.box.lt (fun x hx b hb => (own_blk (HPT.out.own.each x hx) hb).2) hf9 ho9)
          have y1 := (HP8.out.box.fr hf9 (fun hq => by have := (own_blk HP8.out.own.row hq).1; omega)).box.1 1 _ rfl
          have hfz := (HP8.out.box.fr hf9 (fun hq => by have := (own_blk HP8.out.own.row hq).1; omega)).box.2.1 1
          clear ho9 hf9
          refine hK.out _ _ ?_ (fun hH4 => ?_)
          · trivial
          clear hK K
          refine wpAnyH_take (i := 6) (oi := _) (v := .pointer (some ⟨M, 1, none⟩)) rfl (by kernel_rfl) (by kernel_rfl) (by kernel_rfl) (fun _ _ _ h => h) (Or.inl ⟨by rfl, ?_⟩) hH4 ?_
          · intro w hSw; go_simp
          simp only [Act.put, List.getElem_toArray, List.getElem_cons_zero, List.getElem_cons_succ, List.setIfInBounds_toArray, List.set_cons_zero, List.set_cons_succ]
          refine wpAnyH_ready (rs := [7]) (by kernel_rfl) (by simp) (AllReadyH.cons (o := _) rfl (fun K hK => ?_) AllReadyH.nil)
          go_simp
          refine hK.out _ _ ?_ (fun hH5 => ?_)
          · trivial
          clear hK K
          refine wpAnyH_done (by kernel_rfl) ?_ _
          generalize w9.setCell ⟨M, 1, none⟩ (.slice a9 (Ks.length + 1) c9) = w10 at *
          go_wp2_with fail
          go_roundw
          case rel => exact ⟨k + 1, s, a9, c9, Ks ++ [(l, ya, yc)], by go_num, by omega, Lib.hid' (by rw [List.length_append, HL.out]; rfl), Lib.hid' (by rw [List.map_append]; exact HNX.out), Lib.hid' (fun x hx => by rcases List.mem_append.1 hx with hx | hx; exact HK4.out x hx; simp only [List.mem_singleton] at hx; subst hx; exact hcl), HP9⟩
          case measure => simp [intOf]; omega
        · skip
          go_simp
          refine (HCH.out _ HPd.out.rd).mono ?_
          rintro en w8 ⟨ya, yc, rfl, hoy, hr8, hf8⟩
          have HP8 := Lib.hid' (HPd.out.read hf8 hr8)
          have HOY := Lib.hid' (show w8.ownsRow wr.heap.size 3 1 (.slice ya l.length yc) l.length (zVs l) from hoy)
          have z1 := HP8.out.box.box.1 1 _ rfl
          have hM8 := HP8.out.box.lt
          clear hoy hr8 hf8
          refine hK.out _ _ ?_ (fun hH1 => ?_)
          · trivial
          clear hK K
          refine wpAnyH_ready (rs := [1, 4]) (by kernel_rfl) (by simp) (AllReadyH.cons (o := _) rfl (fun K hK => ?_) (AllReadyH.cons (o := _) rfl (fun K hK => ?_) AllReadyH.nil))
          · skip
            go_simp
            refine hK.out _ _ ?_ (fun hH2 => ?_)
            · trivial
            clear hK K
            refine wpAnyH_ready (rs := [4]) (by kernel_rfl) (by simp) (AllReadyH.cons (o := _) rfl (fun K hK => ?_) AllReadyH.nil)
            go_simp
            refine hK.out _ _ ?_ (fun hH3 => ?_)
            · trivial
            clear hK K
            refine wpAnyH_ready (rs := [5]) (by kernel_rfl) (by simp) (AllReadyH.cons (o := _) rfl (fun K hK => ?_) AllReadyH.nil)
            refine step_one (w := w8) etRows rfl (.tmp 37) (.tmp 40) rfl [.slice ya l.length yc] rfl (M + 1) Ks.length (Ks.map chV) (.slice a' Ks.length c') rfl HP8.out.own.row rfl (by simp [Value.oneCell']) (by omega) (by omega) ?_
            intro a9 c9 w9 ho9 hf9
            have HP9 := Lib.hid' (HP8.out.push (l, ya, yc) HOY.out HPT.out.box.lt (fun x hx b hb => (own_blk (HPT.out.own.each x hx) hb).2) hf9 ho9)
            have y1 := (HP8.out.box.fr hf9 (fun hq => by have := (own_blk HP8.out.own.row hq).1; omega)).box.1 1 _ rfl
            have hfz := (HP8.out.box.fr hf9 (fun hq => by have := (own_blk HP8.out.own.row hq).1; omega)).box.2.1 1
            clear ho9 hf9
            refine hK.out _ _ ?_ (fun hH4 => ?_)
            · trivial
            clear hK K
            refine wpAnyH_take (i := 6) (oi := _) (v := .pointer (some ⟨M, 1, none⟩)) rfl (by kernel_rfl) (by kernel_rfl) (by kernel_rfl) (fun _ _ _ h => h) (Or.inl ⟨by rfl, ?_⟩) hH4 ?_
            · intro w hSw; go_simp
            simp only [Act.put, List.getElem_toArray, List.getElem_cons_zero, List.getElem_cons_succ, List.setIfInBounds_toArray, List.set_cons_zero, List.set_cons_succ]
            refine wpAnyH_ready (rs := [7]) (by kernel_rfl) (by simp) (AllReadyH.cons (o := _) rfl (fun K hK => ?_) AllReadyH.nil)
            go_simp
            refine hK.out _ _ ?_ (fun hH5 => ?_)
            · trivial
            clear hK K
            refine wpAnyH_done (by kernel_rfl) ?_ _
            generalize w9.setCell ⟨M, 1, none⟩ (.slice a9 (Ks.length + 1) c9) = w10 at *
            go_wp2_with fail
            go_roundw
            case rel => exact ⟨k + 1, s, a9, c9, Ks ++ [(l, ya, yc)], by go_num, by omega, Lib.hid' (by rw [List.length_append, HL.out]; rfl), Lib.hid' (by rw [List.map_append]; exact HNX.out), Lib.hid' (fun x hx => by rcases List.mem_append.1 hx with hx | hx; exact HK4.out x hx; simp only [List.mem_singleton] at hx; subst hx; exact hcl), HP9⟩
            case measure => simp [intOf]; omega
          · skip
            go_simp
            refine hK.out _ _ ?_ (fun hH2 => ?_)
            · trivial
            clear hK K
            refine wpAnyH_ready (rs := [1]) (by kernel_rfl) (by simp) (AllReadyH.cons (o := _) rfl (fun K hK => ?_) AllReadyH.nil)
            go_simp
            refine hK.out _ _ ?_ (fun hH3 => ?_)
            · trivial
            clear hK K
            refine wpAnyH_ready (rs := [5]) (by kernel_rfl) (by simp) (AllReadyH.cons (o := _) rfl (fun K hK => ?_) AllReadyH.nil)
            refine step_one (w := w8) etRows rfl (.tmp 37) (.tmp 40) rfl [.slice ya l.length yc] rfl (M + 1) Ks.length (Ks.map chV) (.slice a' Ks.length c') rfl HP8.out.own.row rfl (by simp [Value.oneCell']) (by omega) (by omega) ?_
            intro a9 c9 w9 ho9 hf9
            have HP9 := Lib.hid' (HP8.out.push (l, ya, yc) HOY.out HPT.out.box.lt (fun x hx b hb => (own_blk (HPT.out.own.each x hx) hb).2) hf9 ho9)
            have y1 := (HP8.out.box.fr hf9 (fun hq => by have := (own_blk HP8.out.own.row hq).1; omega)).box.1 1 _ rfl
            have hfz := (HP8.out.box.fr hf9 (fun hq => by have := (own_blk HP8.out.own.row hq).1; omega)).box.2.1 1
            clear ho9 hf9
            refine hK.out _ _ ?_ (fun hH4 => ?_)
            · trivial
            clear hK K
            refine wpAnyH_take (i := 6) (oi := _) (v := .pointer (some ⟨M, 1, none⟩)) rfl (by kernel_rfl) (by kernel_rfl) (by kernel_rfl) (fun _ _ _ h => h) (Or.inl ⟨by rfl, ?_⟩) hH4 ?_
            · intro w hSw; go_simp
            simp only [Act.put, List.getElem_toArray, List.getElem_cons_zero, List.getElem_cons_succ, List.setIfInBounds_toArray, List.set_cons_zero, List.set_cons_succ]
            refine wpAnyH_ready (rs := [7]) (by kernel_rfl) (by simp) (AllReadyH.cons (o := _) rfl (fun K hK => ?_) AllReadyH.nil)
            go_simp
            refine hK.out _ _ ?_ (fun hH5 => ?_)
            · trivial
            clear hK K
            refine wpAnyH_done (by kernel_rfl) ?_ _
            generalize w9.setCell ⟨M, 1, none⟩ (.slice a9 (Ks.length + 1) c9) = w10 at *
            go_wp2_with fail
            go_roundw
            case rel => exact ⟨k + 1, s, a9, c9, Ks ++ [(l, ya, yc)], by go_num, by omega, Lib.hid' (by rw [List.length_append, HL.out]; rfl), Lib.hid' (by rw [List.map_append]; exact HNX.out), Lib.hid' (fun x hx => by rcases List.mem_append.1 hx with hx | hx; exact HK4.out x hx; simp only [List.mem_singleton] at hx; subst hx; exact hcl), HP9⟩
            case measure => simp [intOf]; omega
      · obtain rfl : k = mm := by omega
        have hgo : decide ((k : Int) < min (mn : Int) 4) = false := decide_eq_false (by have := HMM.out; omega)
        have HCE := Lib.hid' (show (Ks.map (·.1), r) = C by have := HC.out; rwa [Nat.sub_self] at this)
        have HRD2 := Lib.hid' (show Pj.read ⟨(fone b).2, 0⟩ = (docJ e0 Ks, r) by rw [HRD.out, ← HCE.out]; rfl)
        have n0 := HPT.out.res.box.1 0 _ rfl
        have n1 := HPT.out.res.box.1 1 _ rfl
        have g0 := HPT.out.res.box.2.1 0
        have g1 := HPT.out.res.box.2.1 1
        have hen := end_any bR r wr HPT.out.rd
        obtain ⟨fn, hfn⟩ : ∃ n, n = r.fin := ⟨_, rfl⟩
        have HFN := Lib.hid' hfn
        rw [← hfn] at hen
        have HEN := Lib.hid' hen
        clear hen hfn
        go_wp2_with fail
        refine HEN.out.mono ?_
        clear HEN
        rintro en wz ⟨rfl, rfl⟩
        by_cases hfn0 : fn = 0
        rotate_left
        · have HE := Lib.hid' (HERR.out wr fn HPT.out.below (HP.out.trans (by rw [ptake_2 HF1.out.symm HRD2.out (by rw [← HFN.out]; exact hfn0), ← HFN.out])))
          rw [errV_pos hfn0] at HE ⊢
          clear hfn0
          go_wp2
          refine bodyPost_ret (v := .tuple #[pjV 0 none 0 [], .iface 71 (.int .i64 fn)]) (by simp [results, Tryz.results9, go_sem, pjV, n0, n1]) rfl HE.out
        have HFN0 := Lib.hid' (show r.fin = 0 from HFN.out.symm.trans hfn0)
        rw [hfn0, errV_0]
        clear hfn0
        have x0 := HPT.out.box.box.1 0 _ rfl
        have x1 := HPT.out.box.box.1 1 _ rfl
        have hMl := HPT.out.box.lt
        obtain ⟨ck, hck⟩ : ∃ n, n = (docJ e0 Ks).check := ⟨_, rfl⟩
        have HCK := Lib.hid' hck
        have hpc := pcheck_any e0 a' c' Ks wr HPT.out.own.chs (by have := flat_len4 HK4.out; have := HL.out; omega)
        rw [← hck] at hpc
        have HPC := Lib.hid' hpc
        clear hpc hck
        go_wp2_with fail
        refine HPC.out.mono ?_
        clear HPC
        rintro en wz ⟨rfl, hbz⟩
        have HPZ := Lib.hid' (HPT.out.past hbz)
        clear hbz n0 n1 g0 g1 x0 x1 hMl
        have n0 := HPZ.out.res.box.1 0 _ rfl
        have n1 := HPZ.out.res.box.1 1 _ rfl
        have g0 := HPZ.out.res.box.2.1 0
        have g1 := HPZ.out.res.box.2.1 1
        by_cases hck0 : ck = 0
        rotate_left
        · have HE := Lib.hid' (HERR.out wz ck HPZ.out.below (HP.out.trans (by rw [ptake_3 HF1.out.symm HRD2.out HFN0.out (by rw [← HCK.out]; exact hck0), ← HCK.out])))
          rw [errV_pos hck0] at HE ⊢
          clear hck0
          go_wp2
          refine bodyPost_ret (v := .tuple #[pjV 0 none 0 [], .iface 71 (.int .i64 ck)]) (by simp [results, Tryz.results9, go_sem, pjV, n0, n1]) rfl HE.out
        have HCK0 := Lib.hid' (show (docJ e0 Ks).check = 0 from HCK.out.symm.trans hck0)
        rw [hck0, errV_0]
        clear hck0
        have x0 := HPZ.out.box.box.1 0 _ rfl
        have x1 := HPZ.out.box.box.1 1 _ rfl
        have hMl := HPZ.out.box.lt
        have HRET := Lib.hid' (show PTakeR p w (.returned (.tuple #[.agg #[.int .i64 (e0 : Int), .slice a' Ks.length c'], .nilIface])) ((wz.setCell ⟨N, 0, none⟩ (.int .i64 (e0 : Int))).setCell ⟨N, 1, none⟩ (.slice a' Ks.length c')) from by
          rw [HP.out, ptake_4 HF1.out.symm HRD2.out HFN0.out HCK0.out]
          have ho := HPZ.out.ord
          refine ⟨e0, a', c', Ks, rfl, rfl, ?_, ?_⟩
          · exact (HPZ.out.own.fr (F := fun q => q = N) ((fr_set _ _ _ _).trans (fr_set _ _ _ _) (fun i hi => .inl hi)) (fun q hq => by omega)).base (by omega)
          · exact (HPZ.out.below.setCell (by simp; omega) _).setCell (by simp; omega) _)
        go_wp2
        refine bodyPost_ret (v := .tuple #[.agg #[.int .i64 (e0 : Int), .slice a' Ks.length c'], .nilIface]) (by simp [results, Tryz.results9, go_sem, x0, x1, n0, n1]) rfl HRET.out
  · rw [if_neg h4] at hr3
    subst hr3
    obtain ⟨w7, rfl⟩ : ∃ w7, w7 = w6 := ⟨_, rfl⟩
    have HP7 := HP6
    clear HP6
    obtain ⟨r3, hr3⟩ : ∃ r, r = r3 := ⟨_, rfl⟩
    rw [← hr3] at HC HP7
    clear hr3
    go_wp2_with fail
    go_loopw [34] (fun v34 wr => ∃ (k : Nat) (r : RD) (a' : Option Addr) (c' : Nat) (Ks : List Ch), v34 = .int .u64 k ∧ k ≤ mm ∧ Hid (Ks.length = k) ∧ Hid (RD.chains (mm - k) r (Ks.map (·.1)) = C) ∧ Hid (∀ x ∈ Ks, x.1.length ≤ 4) ∧ Hid (PT w N bR M e0 r a' c' Ks wr)) (fun v34 _ => mm - (intOf v34).toNat)
    case atStart => exact ⟨0, r3, none, 0, [], rfl, Nat.zero_le _, Lib.hid' rfl, HC, Lib.hid' (by simp), HP7⟩
    case round =>
      clear HC HP7
      obtain ⟨k, r, a', c', Ks, rfl, hk, HL, HC, HK4, HPT⟩ := hrel
      by_cases hlt : k < mm
      · have HNX := Lib.hid' (chains_next hlt HC.out)
        have hcl := chain_le r
        obtain ⟨l, hl⟩ : ∃ l, l = r.chain.1 := ⟨_, rfl⟩
        obtain ⟨s, hs⟩ : ∃ s, s = r.chain.2 := ⟨_, rfl⟩
        have hch := fun wq => pchain_any bR r wq
        rw [← hl, ← hs] at hch
        rw [← hl, ← hs] at HNX
        rw [← hl] at hcl
        have HCH := Lib.hid' hch
        clear hch hl hs
        have hkl : Ks.length ≤ 4 := by have := HL.out; omega
        have hgo : decide ((k : Int) < min (mn : Int) 4) = true := decide_eq_true (by have := HMM.out; omega)
        go_upto_region 11 with fail
        have HPd := Lib.hid' (HPT.out.past (Below.drew (Below.refl _ _)))
        have x1 := HPT.out.box.box.1 1 _ rfl
        refine wp_region_held_drew (S := (fun _ => True)) (by kernel_rfl) trivial (fun hH0 => ?_)
        refine wpAnyH_take (i := 0) (oi := _) (v := .pointer (some ⟨M, 1, none⟩)) rfl (by kernel_rfl) (by kernel_rfl) (by kernel_rfl) (fun _ _ _ h => h) (Or.inl ⟨by rfl, ?_⟩) hH0 ?_
        · intro w hSw; go_simp
        simp only [Act.put, List.getElem_toArray, List.getElem_cons_zero, List.getElem_cons_succ, List.setIfInBounds_toArray, List.set_cons_zero, List.set_cons_succ]
        refine wpAnyH_take (i := 2) (oi := _) (v := .pointer (some ⟨bR, 0, none⟩)) rfl (by kernel_rfl) (by kernel_rfl) (by kernel_rfl) (fun _ _ _ h => h) (Or.inl ⟨by rfl, ?_⟩) hH0 ?_
        · intro w hSw; go_simp
        simp only [Act.put, List.getElem_toArray, List.getElem_cons_zero, List.getElem_cons_succ, List.setIfInBounds_toArray, List.set_cons_zero, List.set_cons_succ]
        refine wpAnyH_ready (rs := [1, 3]) (by kernel_rfl) (by simp) (AllReadyH.cons (o := _) rfl (fun K hK => ?_) (AllReadyH.cons (o := _) rfl (fun K hK => ?_) AllReadyH.nil))
        · skip
          go_simp
          refine hK.out _ _ ?_ (fun hH1 => ?_)
          · trivial
          clear hK K
          refine wpAnyH_ready (rs := [3]) (by kernel_rfl) (by simp) (AllReadyH.cons (o := _) rfl (fun K hK => ?_) AllReadyH.nil)
          go_simp
          refine (HCH.out _ HPd.out.rd).mono ?_
          rintro en w8 ⟨ya, yc, rfl, hoy, hr8, hf8⟩
          have HP8 := Lib.hid' (HPd.out.read hf8 hr8)
          have HOY := Lib.hid' (show w8.ownsRow wr.heap.size 3 1 (.slice ya l.length yc) l.length (zVs l) from hoy)
          have z1 := HP8.out.box.box.1 1 _ rfl
          have hM8 := HP8.out.box.lt
          clear hoy hr8 hf8
          refine hK.out _ _ ?_ (fun hH2 => ?_)
          · trivial
          clear hK K
          refine wpAnyH_ready (rs := [4]) (by kernel_rfl) (by simp) (AllReadyH.cons (o := _) rfl (fun K hK => ?_) AllReadyH.nil)
          go_simp
          refine hK.out _ _ ?_ (fun hH3 => ?_)
          · trivial
          clear hK K
          refine wpAnyH_ready (rs := [5]) (by kernel_rfl) (by simp) (AllReadyH.cons (o := _) rfl (fun K hK => ?_) AllReadyH.nil)
          refine step_one (w := w8) etRows rfl (.tmp 37) (.tmp 40) rfl [.slice ya l.length yc] rfl (M + 1) Ks.length (Ks.map chV) (.slice a' Ks.length c') rfl HP8.out.own.row rfl (by simp [Value.oneCell']) (by omega) (by omega) ?_
          intro a9 c9 w9 ho9 hf9
          have HP9 := Lib.hid' (HP8.out.push (l, ya, yc) HOY.out HPT.out.box.lt (fun x hx b hb => (own_blk (HPT.out.own.each x hx) hb).2) hf9 ho9)
          have y1 := (HP8.out.box.fr hf9 (fun hq => by have := (own_blk HP8.out.own.row hq).1; omega)).box.1 1 _ rfl
          have hfz := (HP8.out.box.fr hf9 (fun hq => by have := (own_blk HP8.out.own.row hq).1; omega)).box.2.1 1
          clear ho9 hf9
          refine hK.out _ _ ?_ (fun hH4 => ?_)
          · trivial
          clear hK K
          refine wpAnyH_take (i := 6) (oi := _) (v := .pointer (some ⟨M, 1, none⟩)) rfl (by kernel_rfl) (by kernel_rfl) (by kernel_rfl) (fun _ _ _ h => h) (Or.inl ⟨by rfl, ?_⟩) hH4 ?_
          · intro w hSw; go_simp
          simp only [Act.put, List.getElem_toArray, List.getElem_cons_zero, List.getElem_cons_succ, List.setIfInBounds_toArray, List.set_cons_zero, List.set_cons_succ]
          refine wpAnyH_ready (rs := [7]) (by kernel_rfl) (by simp) (AllReadyH.cons (o := _) rfl (fun K hK => ?_) AllReadyH.nil)
          go_simp
          refine hK.out _ _ ?_ (fun hH5 => ?_)
          · trivial
          clear hK K
          refine wpAnyH_done (by kernel_rfl) ?_ _
          generalize w9.setCell ⟨M, 1, none⟩ (.slice a9 (Ks.length + 1) c9) = w10 at *
          go_wp2_with fail
          go_roundw
          case rel => exact ⟨k + 1, s, a9, c9, Ks ++ [(l, ya, yc)], by go_num, by omega, Lib.hid' (by rw [List.length_append, HL.out]; rfl), Lib.hid' (by rw [List.map_append]; exact HNX.out), Lib.hid' (fun x hx => by rcases List.mem_append.1 hx with hx | hx; exact HK4.out x hx; simp only [List.mem_singleton] at hx; subst hx; exact hcl), HP9⟩
          case measure => simp [intOf]; omega
        · skip
          go_simp
          refine (HCH.out _ HPd.out.rd).mono ?_
          rintro en w8 ⟨ya, yc, rfl, hoy, hr8, hf8⟩
          have HP8 := Lib.hid' (HPd.out.read hf8 hr8)
          have HOY := Lib.hid' (show w8.ownsRow wr.heap.size 3 1 (.slice ya l.length yc) l.length (zVs l) from hoy)
          have z1 := HP8.out.box.box.1 1 _ rfl
          have hM8 := HP8.out.box.lt
          clear hoy hr8 hf8
          refine hK.out _ _ ?_ (fun hH1 => ?_)
          · trivial
          clear hK K
          refine wpAnyH_ready (rs := [1, 4]) (by kernel_rfl) (by simp) (AllReadyH.cons (o := _) rfl (fun K hK => ?_) (AllReadyH.cons (o := _) rfl (fun K hK => ?_) AllReadyH.nil))
          · skip
            go_simp
            refine hK.out _ _ ?_ (fun hH2 => ?_)
            · trivial
            clear hK K
            refine wpAnyH_ready (rs := [4]) (by kernel_rfl) (by simp) (AllReadyH.cons (o := _) rfl (fun K hK => ?_) AllReadyH.nil)
            go_simp
            refine hK.out _ _ ?_ (fun hH3 => ?_)
            · trivial
            clear hK K
            refine wpAnyH_ready (rs := [5]) (by kernel_rfl) (by simp) (AllReadyH.cons (o := _) rfl (fun K hK => ?_) AllReadyH.nil)
            refine step_one (w := w8) etRows rfl (.tmp 37) (.tmp 40) rfl [.slice ya l.length yc] rfl (M + 1) Ks.length (Ks.map chV) (.slice a' Ks.length c') rfl HP8.out.own.row rfl (by simp [Value.oneCell']) (by omega) (by omega) ?_
            intro a9 c9 w9 ho9 hf9
            have HP9 := Lib.hid' (HP8.out.push (l, ya, yc) HOY.out HPT.out.box.lt (fun x hx b hb => (own_blk (HPT.out.own.each x hx) hb).2) hf9 ho9)
            have y1 := (HP8.out.box.fr hf9 (fun hq => by have := (own_blk HP8.out.own.row hq).1; omega)).box.1 1 _ rfl
            have hfz := (HP8.out.box.fr hf9 (fun hq => by have := (own_blk HP8.out.own.row hq).1; omega)).box.2.1 1
            clear ho9 hf9
            refine hK.out _ _ ?_ (fun hH4 => ?_)
            · trivial
            clear hK K
            refine wpAnyH_take (i := 6) (oi := _) (v := .pointer (some ⟨M, 1, none⟩)) rfl (by kernel_rfl) (by kernel_rfl) (by kernel_rfl) (fun _ _ _ h => h) (Or.inl ⟨by rfl, ?_⟩) hH4 ?_
            · intro w hSw; go_simp
            simp only [Act.put, List.getElem_toArray, List.getElem_cons_zero, List.getElem_cons_succ, List.setIfInBounds_toArray, List.set_cons_zero, List.set_cons_succ]
            refine wpAnyH_ready (rs := [7]) (by kernel_rfl) (by simp) (AllReadyH.cons (o := _) rfl (fun K hK => ?_) AllReadyH.nil)
            go_simp
            refine hK.out _ _ ?_ (fun hH5 => ?_)
            · trivial
            clear hK K
            refine wpAnyH_done (by kernel_rfl) ?_ _
            generalize w9.setCell ⟨M, 1, none⟩ (.slice a9 (Ks.length + 1) c9) = w10 at *
            go_wp2_with fail
            go_roundw
            case rel => exact ⟨k + 1, s, a9, c9, Ks ++ [(l, ya, yc)], by go_num, by omega, Lib.hid' (by rw [List.length_append, HL.out]; rfl), Lib.hid' (by rw [List.map_append]; exact HNX.out), Lib.hid' (fun x hx => by rcases List.mem_append.1 hx with hx | hx; exact HK4.out x hx; simp only [List.mem_singleton] at hx; subst hx; exact hcl), HP9⟩
            case measure => simp [intOf]; omega
          · skip
            go_simp
            refine hK.out _ _ ?_ (fun hH2 => ?_)
            · trivial
            clear hK K
            refine wpAnyH_ready (rs := [1]) (by kernel_rfl) (by simp) (AllReadyH.cons (o := _) rfl (fun K hK => ?_) AllReadyH.nil)
            go_simp
            refine hK.out _ _ ?_ (fun hH3 => ?_)
            · trivial
            clear hK K
            refine wpAnyH_ready (rs := [5]) (by kernel_rfl) (by simp) (AllReadyH.cons (o := _) rfl (fun K hK => ?_) AllReadyH.nil)
            refine step_one (w := w8) etRows rfl (.tmp 37) (.tmp 40) rfl [.slice ya l.length yc] rfl (M + 1) Ks.length (Ks.map chV) (.slice a' Ks.length c') rfl HP8.out.own.row rfl (by simp [Value.oneCell']) (by omega) (by omega) ?_
            intro a9 c9 w9 ho9 hf9
            have HP9 := Lib.hid' (HP8.out.push (l, ya, yc) HOY.out HPT.out.box.lt (fun x hx b hb => (own_blk (HPT.out.own.each x hx) hb).2) hf9 ho9)
            have y1 := (HP8.out.box.fr hf9 (fun hq => by have := (own_blk HP8.out.own.row hq).1; omega)).box.1 1 _ rfl
            have hfz := (HP8.out.box.fr hf9 (fun hq => by have := (own_blk HP8.out.own.row hq).1; omega)).box.2.1 1
            clear ho9 hf9
            refine hK.out _ _ ?_ (fun hH4 => ?_)
            · trivial
            clear hK K
            refine wpAnyH_take (i := 6) (oi := _) (v := .pointer (some ⟨M, 1, none⟩)) rfl (by kernel_rfl) (by kernel_rfl) (by kernel_rfl) (fun _ _ _ h => h) (Or.inl ⟨by rfl, ?_⟩) hH4 ?_
            · intro w hSw; go_simp
            simp only [Act.put, List.getElem_toArray, List.getElem_cons_zero, List.getElem_cons_succ, List.setIfInBounds_toArray, List.set_cons_zero, List.set_cons_succ]
            refine wpAnyH_ready (rs := [7]) (by kernel_rfl) (by simp) (AllReadyH.cons (o := _) rfl (fun K hK => ?_) AllReadyH.nil)
            go_simp
            refine hK.out _ _ ?_ (fun hH5 => ?_)
            · trivial
            clear hK K
            refine wpAnyH_done (by kernel_rfl) ?_ _
            generalize w9.setCell ⟨M, 1, none⟩ (.slice a9 (Ks.length + 1) c9) = w10 at *
            go_wp2_with fail
            go_roundw
            case rel => exact ⟨k + 1, s, a9, c9, Ks ++ [(l, ya, yc)], by go_num, by omega, Lib.hid' (by rw [List.length_append, HL.out]; rfl), Lib.hid' (by rw [List.map_append]; exact HNX.out), Lib.hid' (fun x hx => by rcases List.mem_append.1 hx with hx | hx; exact HK4.out x hx; simp only [List.mem_singleton] at hx; subst hx; exact hcl), HP9⟩
            case measure => simp [intOf]; omega
      · obtain rfl : k = mm := by omega
        have hgo : decide ((k : Int) < min (mn : Int) 4) = false := decide_eq_false (by have := HMM.out; omega)
        have HCE := Lib.hid' (show (Ks.map (·.1), r) = C by have := HC.out; rwa [Nat.sub_self] at this)
        have HRD2 := Lib.hid' (show Pj.read ⟨(fone b).2, 0⟩ = (docJ e0 Ks, r) by rw [HRD.out, ← HCE.out]; rfl)
        have n0 := HPT.out.res.box.1 0 _ rfl
        have n1 := HPT.out.res.box.1 1 _ rfl
        have g0 := HPT.out.res.box.2.1 0
        have g1 := HPT.out.res.box.2.1 1
        have hen := end_any bR r wr HPT.out.rd
        obtain ⟨fn, hfn⟩ : ∃ n, n = r.fin := ⟨_, rfl⟩
        have HFN := Lib.hid' hfn
        rw [← hfn] at hen
        have HEN := Lib.hid' hen
        clear hen hfn
        go_wp2_with fail
        refine HEN.out.mono ?_
        clear HEN
        rintro en wz ⟨rfl, rfl⟩
        by_cases hfn0 : fn = 0
        rotate_left
        · have HE := Lib.hid' (HERR.out wr fn HPT.out.below (HP.out.trans (by rw [ptake_2 HF1.out.symm HRD2.out (by rw [← HFN.out]; exact hfn0), ← HFN.out])))
          rw [errV_pos hfn0] at HE ⊢
          clear hfn0
          go_wp2
          refine bodyPost_ret (v := .tuple #[pjV 0 none 0 [], .iface 71 (.int .i64 fn)]) (by simp [results, Tryz.results9, go_sem, pjV, n0, n1]) rfl HE.out
        have HFN0 := Lib.hid' (show r.fin = 0 from HFN.out.symm.trans hfn0)
        rw [hfn0, errV_0]
        clear hfn0
        have x0 := HPT.out.box.box.1 0 _ rfl
        have x1 := HPT.out.box.box.1 1 _ rfl
        have hMl := HPT.out.box.lt
        obtain ⟨ck, hck⟩ : ∃ n, n = (docJ e0 Ks).check := ⟨_, rfl⟩
        have HCK := Lib.hid' hck
        have hpc := pcheck_any e0 a' c' Ks wr HPT.out.own.chs (by have := flat_len4 HK4.out; have := HL.out; omega)
        rw [← hck] at hpc
        have HPC := Lib.hid' hpc
        clear hpc hck
        go_wp2_with fail
        refine HPC.out.mono ?_
        clear HPC
        rintro en wz ⟨rfl, hbz⟩
        have HPZ := Lib.hid' (HPT.out.past hbz)
        clear hbz n0 n1 g0 g1 x0 x1 hMl
        have n0 := HPZ.out.res.box.1 0 _ rfl
        have n1 := HPZ.out.res.box.1 1 _ rfl
        have g0 := HPZ.out.res.box.2.1 0
        have g1 := HPZ.out.res.box.2.1 1
        by_cases hck0 : ck = 0
        rotate_left
        · have HE := Lib.hid' (HERR.out wz ck HPZ.out.below (HP.out.trans (by rw [ptake_3 HF1.out.symm HRD2.out HFN0.out (by rw [← HCK.out]; exact hck0), ← HCK.out])))
          rw [errV_pos hck0] at HE ⊢
          clear hck0
          go_wp2
          refine bodyPost_ret (v := .tuple #[pjV 0 none 0 [], .iface 71 (.int .i64 ck)]) (by simp [results, Tryz.results9, go_sem, pjV, n0, n1]) rfl HE.out
        have HCK0 := Lib.hid' (show (docJ e0 Ks).check = 0 from HCK.out.symm.trans hck0)
        rw [hck0, errV_0]
        clear hck0
        have x0 := HPZ.out.box.box.1 0 _ rfl
        have x1 := HPZ.out.box.box.1 1 _ rfl
        have hMl := HPZ.out.box.lt
        have HRET := Lib.hid' (show PTakeR p w (.returned (.tuple #[.agg #[.int .i64 (e0 : Int), .slice a' Ks.length c'], .nilIface])) ((wz.setCell ⟨N, 0, none⟩ (.int .i64 (e0 : Int))).setCell ⟨N, 1, none⟩ (.slice a' Ks.length c')) from by
          rw [HP.out, ptake_4 HF1.out.symm HRD2.out HFN0.out HCK0.out]
          have ho := HPZ.out.ord
          refine ⟨e0, a', c', Ks, rfl, rfl, ?_, ?_⟩
          · exact (HPZ.out.own.fr (F := fun q => q = N) ((fr_set _ _ _ _).trans (fr_set _ _ _ _) (fun i hi => .inl hi)) (fun q hq => by omega)).base (by omega)
          · exact (HPZ.out.below.setCell (by simp; omega) _).setCell (by simp; omega) _)
        go_wp2
        refine bodyPost_ret (v := .tuple #[.agg #[.int .i64 (e0 : Int), .slice a' Ks.length c'], .nilIface]) (by simp [results, Tryz.results9, go_sem, x0, x1, n0, n1]) rfl HRET.out
end Go.Proofs.YtkljeefncopodaaGreat
