/- Layer 11 (proj), the document's: a projection's bytes; two lists of numbers side by side. -/
import Derived.Test.YtjkbcjliaacebaaGreatPrjO
import Derived.Test.YtjkbcjliaacebaaGreatRefV
import Derived.BigQuiet
import Derived.Deep.AppendLies
namespace Go.Proofs.YtjkbcjliaacebaaGreat
open Go.RowKit
set_option linter.unusedSimpArgs false
set_option linter.unusedVariables false
set_option maxRecDepth 100000

/-- 'append(out, l..)' as one step of a region that draws its order -/
theorem step_slP {P : Program} {t e size bytes : Nat} (T : ElemT P t e size bytes) {w : World} {ops : Array Oper} {o : Oper} {a : Act} {K : Act → World → Prop} {Q : Exit → Act → World → Prop} {Z : Prop} (hgd : o.guard = none) (s x : Operand)
    (ho : o.op = .call { callee := .builtin .append, args := #[s, x], argTypes := #[t, t] })
    (base n : Nat) (xs : List Value) (v : Value) (hs : a.eval s = v) (hown : w.ownsRow base e size v n xs)
    (m : Nat) (news : List Value) (ad : Addr) (c : Nat) (hx : a.eval x = .slice (some ad) m c) (hsrc : SlV w (.slice (some ad) m c) m news) (hl : news.length = m * size) (h1 : ∀ u ∈ news, u.oneCell' = true)
    (hbytes : (n + m) * bytes ≤ 140737488355328) (hbase : base ≤ w.heap.size)
    (h : ∀ a' c' w', w'.ownsRow base e size (.slice a' (n + m) c') (n + m) (xs ++ news) → Fr (fun k => v.ownBlock = some k) w w' → K (a.put o.dst (.slice a' (n + m) c')) w') :
    if Region.wanted o (yielded ops a.tmps) = true then Oper.wp P o a w K Q else Z := by
  have hw : Region.wanted o (yielded ops a.tmps) = true := by simp [Region.wanted, hgd]
  rw [if_pos hw]
  obtain ⟨i, z, a1, a2, a3, a4, a5⟩ := T.info
  have hpos := T.posb
  have hml : n + m ≤ maxLen := by
    have : (n + m) * 1 ≤ (n + m) * bytes := Nat.mul_le_mul_left _ hpos
    unfold maxLen; omega
  obtain ⟨ao, c', he, k1, k2, k0, k3⟩ := hsrc
  cases he
  refine wp_append_own w s x t ho base e i z size bytes T.under a1 a2 a3 a4 a5 T.pos v n xs hs hown ad m c news hx hl
    (fun j u hu => by obtain ⟨p, hp, hc⟩ := k3 j u hu; cases hp; exact hc) h1 hml hbytes hbase (fun v' w' r1 r2 _ => ?_)
  obtain ⟨a', c2, rfl⟩ := own_shape r1
  exact h a' c2 w' r1 ⟨r2.os, r2.tape, r2.output, r2.size, fun k hk hn => r2.block k hk (fun e => hn e.symm)⟩

theorem ints_next {l m : List Int} {k : Nat} (h : l.take k = m.take k) (h1 : k < l.length) (h2 : k < m.length) (he : l[k] = m[k]) : l.take (k + 1) = m.take (k + 1) := by
  rw [List.take_succ_eq_append_getElem h1, List.take_succ_eq_append_getElem h2, h, he]
theorem ints_no {l m : List Int} {k : Nat} (h1 : k < l.length) (h2 : k < m.length) (he : l[k] ≠ m[k]) : (l == m) = false := by
  rw [beq_eq_false_iff_ne]; intro e; subst e; exact he rfl
set_option maxHeartbeats 1000000 in
theorem ints_any (l m : List Int) (a b : Option Addr) (c d : Nat) (w : World) (h : Zs w (.slice a l.length c) l) (h' : Zs w (.slice b m.length d) m) :
    Calls Tryz.prog 17 #[.slice a l.length c, .slice b m.length d] w fun e w' => e = .returned (.bool (l == m)) ∧ Below w.heap.size w w' := by
  have HL := Lib.hid' h
  have HM := Lib.hid' h'
  have h1 := h.len
  have h2 := h'.len
  clear h h'
  obtain ⟨r, hr⟩ : ∃ r, r = (l == m) := ⟨_, rfl⟩
  have HR := Lib.hid' hr
  rw [← hr]
  clear hr
  by_cases hq : l.length = m.length
  rotate_left
  · have HF := Lib.hid' (show r = false by rw [HR.out, beq_eq_false_iff_ne]; intro e; exact hq (by rw [e]))
    have hd : ((l.length : Int) != (m.length : Int)) = true := by rw [bne_iff_ne]; omega
    clear hq
    go_enter Tryz.func17, Tryz.ntmps17
    go_wp2
    go_ret
    exact ⟨ret_eq (by rw [HF.out]; rfl), Below.refl _ _⟩
  have HQ := Lib.hid' hq
  have hd : ((l.length : Int) != (m.length : Int)) = false := by rw [bne_eq_false_iff_eq]; omega
  clear hq
  go_enter Tryz.func17, Tryz.ntmps17
  go_wp2_with fail
  clear hd
  go_loopw [13] (fun v13 wr => ∃ k : Nat, v13 = .int .i64 k ∧ k ≤ l.length ∧ Hid (l.take k = m.take k) ∧ Hid (Below w.heap.size w wr)) (fun v13 _ => l.length - (intOf v13).toNat)
  case atStart => exact ⟨0, rfl, Nat.zero_le _, Lib.hid' (by simp), Lib.hid' (Below.refl _ _)⟩
  case round =>
    obtain ⟨k, rfl, hk, HNO, HB⟩ := hrel
    by_cases hlt : k < l.length
    · have hlt' : k < m.length := by have := HQ.out; omega
      obtain ⟨b1, off1, ha1, hb1, hc1⟩ := (show Zs wr (.slice a l.length c) l from SlV.below HL.out (Nat.le_refl _) HB.out).at hlt
      obtain ⟨b2, off2, ha2, hb2, hc2⟩ := (show Zs wr (.slice b m.length d) m from SlV.below HM.out (Nat.le_refl _) HB.out).at hlt'
      subst ha1 ha2
      have HT := Lib.hid' (fun he => ints_next HNO.out hlt hlt' he)
      have HN := Lib.hid' (fun he => ints_no hlt hlt' he)
      generalize l[k] = x at *
      generalize m[k] = y at *
      by_cases hxy : x = y
      · have HT2 := Lib.hid' (HT.out hxy)
        have hn : (x != y) = false := by rw [bne_eq_false_iff_eq]; exact hxy
        clear hxy
        go_wp2_with fail
        go_quiet (fail)
        go_wp2_with fail
        go_roundw
        case rel => exact ⟨k + 1, by go_num, by omega, HT2, Lib.hid' (below_drewN' HB.out _)⟩
        case measure => simp [intOf]; omega
      · have HF := Lib.hid' (show r = false by rw [HR.out]; exact HN.out hxy)
        have hn : (x != y) = true := by rw [bne_iff_ne]; exact hxy
        clear hxy
        go_wp2_with fail
        go_quiet (fail)
        go_wp2
        go_ret
        exact ⟨ret_eq (by rw [HF.out]; rfl), below_drewN' HB.out _⟩
    · have HF := Lib.hid' (show r = true by
        rw [HR.out, beq_iff_eq]
        have h := HNO.out
        have hq := HQ.out
        rw [List.take_of_length_le (by omega), List.take_of_length_le (by omega)] at h
        exact h)
      go_wp2
      go_ret
      exact ⟨ret_eq (by rw [HF.out]; rfl), HB.out⟩

def u8L (l : List Int) : List UInt8 := l.map (fun u => UInt8.ofNat u.toNat)
theorem u8L_vb {l : List Int} (h : ∀ u ∈ l, 0 ≤ u ∧ u < 8) : u8L l = (l.map (fun u => vb u.toNat)).flatten := by
  unfold u8L
  induction l with
  | nil => rfl
  | cons u l ih =>
    have h1 := h u List.mem_cons_self
    rw [List.map_cons, List.map_cons, List.flatten_cons, ih (fun v hv => h v (List.mem_cons_of_mem _ hv)), vb_small (show u.toNat < 128 by omega)]; rfl
theorem chainB_u8 {c : List Int} (hl : c.length ≤ 4) (h : ∀ u ∈ c, 0 ≤ u ∧ u < 8) : chainB c = [UInt8.ofNat c.length] ++ u8L c := by
  unfold chainB; rw [u8L_vb h, vb_small (show c.length < 128 by omega)]
set_option maxHeartbeats 4000000 in
theorem rput11_any (e : Int) (a : Option Addr) (c : Nat) (X : List Ch) (w : World) (h : Chs w a c X) (hc : (docJ e X).check = 0) :
    Calls Tryz.prog 23 #[pjV e a c X] w (OwnR w.heap.size 5 1 (docJ e X).putB.length (byteVs (docJ e X).putB) w) := by
  have HS := Lib.hid' h
  have hlen := h.len
  clear h
  have HOK := Lib.hid' (Pj.ok_of hc)
  have hX4 : X.length ≤ 4 := by have := HOK.out.n1; unfold docJ at this; simpa using this
  have HX4 := Lib.hid' (show ∀ x ∈ X, x.1.length ≤ 4 ∧ ∀ u ∈ x.1, 0 ≤ u ∧ u < 8 from fun x hx => ⟨(HOK.out.c x.1 (List.mem_map_of_mem hx)).2, fun u hu => HOK.out.u u (List.mem_flatten.2 ⟨x.1, List.mem_map_of_mem hx, hu⟩)⟩)
  have he0 : 0 ≤ e := HOK.out.e0
  have he1 : e ≤ 1099511627776 := HOK.out.e1
  have HTL := Lib.hid' HOK.out.text_len
  have HPB := Lib.hid' (show (docJ e X).putB = frameB (docJ e X).text from by unfold Pj.putB; rw [if_neg (by simpa using hc)]; rfl)
  obtain ⟨n, rfl⟩ : ∃ n : Nat, e = n := ⟨e.toNat, by omega⟩
  have hn1 : n ≤ 1099511627776 := by omega
  have HTA := Lib.hid' (textUp_all n (X.map (·.1)))
  rw [show Pj.text ⟨(n : Int), X.map (·.1)⟩ = (docJ n X).text from rfl] at HTA
  have HLM := Lib.hid' (show (X.map (·.1)).length = X.length from List.length_map _)
  have HT0 := Lib.hid' (show textUp n (X.map (·.1)) X.length 0 = vb n ++ vb X.length by simp [textUp])
  obtain ⟨vn, hvn⟩ : ∃ l, l = vb n := ⟨_, rfl⟩
  obtain ⟨vx, hvx⟩ : ∃ l, l = vb X.length := ⟨_, rfl⟩
  have hvn1 : vn.length ≤ 10 := by rw [hvn]; exact vb_len10 (by omega)
  have hvx1 : vx.length ≤ 10 := by rw [hvx]; exact vb_len10 (by omega)
  have HBN := Lib.hid' (fun w => rBytes_any n (by omega) w)
  have HBL := Lib.hid' (fun w => rBytes_any X.length (by omega) w)
  have HVX := Lib.hid' hvx
  rw [← hvn, ← hvx] at HT0
  rw [← hvn] at HBN
  rw [← hvx] at HBL
  have HV := Lib.hid' (show pjV n a c X = .agg #[.int .i64 n, .slice a X.length c] from rfl)
  rw [HV.out]
  clear hc hvn hvx he0 he1
  go_enter Tryz.func23, Tryz.ntmps23
  go_wp2_with fail
  have hg : Below w.heap.size w (w.alloc (.cells #[.int .i64 n, .slice a X.length c] 27)) := by go_grown
  have k0 : (w.alloc (.cells #[.int .i64 n, .slice a X.length c] 27)).cell? ⟨w.heap.size, 0, none⟩ = some (.int .i64 n) := by simp [go_sem]
  have k1 : (w.alloc (.cells #[.int .i64 n, .slice a X.length c] 27)).cell? ⟨w.heap.size, 1, none⟩ = some (.slice a X.length c) := by simp [go_sem]
  have hl0 : w.heap.size < (w.alloc (.cells #[.int .i64 n, .slice a X.length c] 27)).heap.size := by simp
  have HG := Lib.hid' hg
  clear hg
  generalize (w.alloc (.cells #[.int .i64 n, .slice a X.length c] 27)) = w1 at *
  have hb1 : Below w1.heap.size w1 w1.drew := Below.drew (Below.refl _ _)
  have HB1 := Lib.hid' hb1
  clear hb1

  refine wp_region_held_drew (S := (fun w' => w'.cell? ⟨w.heap.size, 0, none⟩ = some (.int .i64 (n : Int)) ∧ w'.cell? ⟨w.heap.size, 1, none⟩ = some (.slice a X.length c))) (by kernel_rfl) ⟨by simpa using k0, by simpa using k1⟩ (fun hH0 => ?_)
  refine wpAnyH_take (i := 0) (oi := _) (v := .pointer (some ⟨w.heap.size, 0, none⟩)) rfl (by kernel_rfl) (by kernel_rfl) (by kernel_rfl) (fun _ _ _ h => h) (Or.inl ⟨by rfl, ?_⟩) hH0 ?_
  · intro w hSw; go_simp
  simp only [Act.put, List.getElem_toArray, List.getElem_cons_zero, List.getElem_cons_succ, List.setIfInBounds_toArray, List.set_cons_zero, List.set_cons_succ]
  refine wpAnyH_take (i := 1) (oi := _) (v := .int .i64 (n : Int)) rfl (by kernel_rfl) (by kernel_rfl) (by kernel_rfl) (fun _ _ _ h => h) (Or.inl ⟨by rfl, ?_⟩) hH0 ?_
  · intro w hSw; go_simp
  simp only [Act.put, List.getElem_toArray, List.getElem_cons_zero, List.getElem_cons_succ, List.setIfInBounds_toArray, List.set_cons_zero, List.set_cons_succ]
  refine wpAnyH_take (i := 2) (oi := _) (v := .int .u64 (n : Int)) rfl (by kernel_rfl) (by kernel_rfl) (by kernel_rfl) (fun _ _ _ h => h) (Or.inl ⟨by rfl, ?_⟩) hH0 ?_
  · intro w hSw; go_simp; exact wraps_u64 _ (by omega) (by omega)
  simp only [Act.put, List.getElem_toArray, List.getElem_cons_zero, List.getElem_cons_succ, List.setIfInBounds_toArray, List.set_cons_zero, List.set_cons_succ]
  refine wpAnyH_take (i := 4) (oi := _) (v := .pointer (some ⟨w.heap.size, 1, none⟩)) rfl (by kernel_rfl) (by kernel_rfl) (by kernel_rfl) (fun _ _ _ h => h) (Or.inl ⟨by rfl, ?_⟩) hH0 ?_
  · intro w hSw; go_simp
  simp only [Act.put, List.getElem_toArray, List.getElem_cons_zero, List.getElem_cons_succ, List.setIfInBounds_toArray, List.set_cons_zero, List.set_cons_succ]
  refine wpAnyH_take (i := 5) (oi := _) (v := .slice a X.length c) rfl (by kernel_rfl) (by kernel_rfl) (by kernel_rfl) (fun _ _ _ h => h) (Or.inl ⟨by rfl, ?_⟩) hH0 ?_
  · intro w hSw; go_simp
  simp only [Act.put, List.getElem_toArray, List.getElem_cons_zero, List.getElem_cons_succ, List.setIfInBounds_toArray, List.set_cons_zero, List.set_cons_succ]
  refine wpAnyH_take (i := 6) (oi := _) (v := .int .i64 (X.length : Int)) rfl (by kernel_rfl) (by kernel_rfl) (by kernel_rfl) (fun _ _ _ h => h) (Or.inl ⟨by rfl, ?_⟩) hH0 ?_
  · intro w hSw; go_simp
  simp only [Act.put, List.getElem_toArray, List.getElem_cons_zero, List.getElem_cons_succ, List.setIfInBounds_toArray, List.set_cons_zero, List.set_cons_succ]
  refine wpAnyH_take (i := 7) (oi := _) (v := .int .u64 (X.length : Int)) rfl (by kernel_rfl) (by kernel_rfl) (by kernel_rfl) (fun _ _ _ h => h) (Or.inl ⟨by rfl, ?_⟩) hH0 ?_
  · intro w hSw; go_simp; exact wraps_u64 _ (by omega) (by omega)
  simp only [Act.put, List.getElem_toArray, List.getElem_cons_zero, List.getElem_cons_succ, List.setIfInBounds_toArray, List.set_cons_zero, List.set_cons_succ]
  refine wpAnyH_ready (rs := [3]) (by kernel_rfl) (by simp) (AllReadyH.cons (o := _) rfl (fun K hK => ?_) AllReadyH.nil)
  go_simp
  refine (HBN.out _).mono ?_
  rintro en w2 ⟨a2, c2, rfl, ho2, hb2⟩
  have HC1 := Lib.hid' (show Below w1.heap.size w1 w2 from HB1.out.trans hb2)
  have HO2 := Lib.hid' (show w2.ownsRow w1.heap.size 5 1 (.slice a2 vn.length c2) vn.length (byteVs vn) from ho2)
  clear ho2 hb2
  refine hK.out _ _ ?_ (fun hH1 => ?_)
  · exact ⟨(HC1.out.cell (p := ⟨w.heap.size, 0, none⟩) hl0).trans k0, (HC1.out.cell (p := ⟨w.heap.size, 1, none⟩) hl0).trans k1⟩
  clear hK K
  refine wpAnyH_ready (rs := [8]) (by kernel_rfl) (by simp) (AllReadyH.cons (o := _) rfl (fun K hK => ?_) AllReadyH.nil)
  go_simp
  refine (HBL.out _).mono ?_
  rintro en w3 ⟨a3, c3, rfl, ho3, hb3⟩
  have HC2 := Lib.hid' (show Below w1.heap.size w1 w3 from HC1.out.trans (hb3.mono HC1.out.size))
  have HO3 := Lib.hid' (own_below HO2.out (Nat.le_refl _) hb3)
  have HE3 := Lib.hid' (show Bytes w3 (.slice a3 vx.length c3) vx from SlV.of_own ho3)
  have hz3 : w1.heap.size ≤ w3.heap.size := HC2.out.size
  have hvp : 0 < vx.length := by have := vb_ne X.length; rw [HVX.out]; cases hq : vb X.length with | nil => exact absurd hq this | cons y l => simp
  obtain ⟨bb3, off3, rfl, hbb3, _⟩ := bytes_at (l := vx) HE3.out hvp
  clear ho3 hb3 hbb3
  refine hK.out _ _ ?_ (fun hH2 => ?_)
  · exact ⟨(HC2.out.cell (p := ⟨w.heap.size, 0, none⟩) hl0).trans k0, (HC2.out.cell (p := ⟨w.heap.size, 1, none⟩) hl0).trans k1⟩
  clear hK K
  refine wpAnyH_ready (rs := [9]) (by kernel_rfl) (by simp) (AllReadyH.cons (o := _) rfl (fun K hK => ?_) AllReadyH.nil)
  refine step_slP etBytes rfl (.tmp 11) (.tmp 16) rfl w1.heap.size vn.length (byteVs vn) _ rfl HO3.out vx.length (byteVs vx) ⟨bb3, off3, none⟩ c3 rfl HE3.out (by simp [byteVs]) (byteVs_one _) (by omega) hz3 ?_
  intro a4 c4 w4 ho4 hf4
  have HC3 := Lib.hid' (HC2.out.trans (hf4.below hz3 (fun q hq => (own_blk HO3.out hq).1)))
  have HL4 := Lib.hid' (show (textUp n (X.map (·.1)) X.length 0).length = vn.length + vx.length by rw [HT0.out]; simp)
  have HO4 := Lib.hid' (show w4.ownsRow w1.heap.size 5 1 (.slice a4 (textUp n (X.map (·.1)) X.length 0).length c4) (textUp n (X.map (·.1)) X.length 0).length (byteVs (textUp n (X.map (·.1)) X.length 0)) by rw [HL4.out, HT0.out, byteVs_append]; exact ho4)
  clear ho4 hf4
  refine hK.out _ _ ?_ (fun hH3 => ?_)
  · exact ⟨(HC3.out.cell (p := ⟨w.heap.size, 0, none⟩) hl0).trans k0, (HC3.out.cell (p := ⟨w.heap.size, 1, none⟩) hl0).trans k1⟩
  clear hK K
  refine wpAnyH_take (i := 10) (oi := _) (v := .slice a4 (vn.length + vx.length) c4) rfl (by kernel_rfl) (by kernel_rfl) (by kernel_rfl) (fun _ _ _ h => h) (Or.inl ⟨by rfl, ?_⟩) hH3 ?_
  · intro w hSw; go_simp
  simp only [Act.put, List.getElem_toArray, List.getElem_cons_zero, List.getElem_cons_succ, List.setIfInBounds_toArray, List.set_cons_zero, List.set_cons_succ]
  refine wpAnyH_done (by kernel_rfl) ?_ _
  have HB4 := Lib.hid' (HG.out.trans (HC3.out.mono HG.out.size))
  have HO5 := Lib.hid' (own_base (B' := w.heap.size) HO4.out HG.out.size)
  have c40 := (HC3.out.cell (p := ⟨w.heap.size, 0, none⟩) hl0).trans k0
  have c41 := (HC3.out.cell (p := ⟨w.heap.size, 1, none⟩) hl0).trans k1
  have hl4 := Nat.lt_of_lt_of_le hl0 HC3.out.size
  clear k0 k1 hl0 HG HB1 HC1 HC2 HC3 HO2 HO3 HE3 HO4 HBN HBL
  rw [← HL4.out]
  generalize w1.heap.size = N1 at *
  go_wp2_with fail
  clear c40 c41 hl4
  go_loopw [3, 21] (fun v3 v21 wr => ∃ (k : Nat) (a' : Option Addr) (c' : Nat), v21 = .int .i64 k ∧ k ≤ X.length ∧ v3 = .slice a' (textUp n (X.map (·.1)) X.length k).length c' ∧ Hid (wr.ownsRow w.heap.size 5 1 (.slice a' (textUp n (X.map (·.1)) X.length k).length c') (textUp n (X.map (·.1)) X.length k).length (byteVs (textUp n (X.map (·.1)) X.length k))) ∧ Hid (Below w.heap.size w wr)) (fun _ v21 _ => X.length - (intOf v21).toNat)
  case atStart => exact ⟨0, a4, c4, rfl, Nat.zero_le _, rfl, HO5, HB4⟩
  case round =>
    clear HO5 HB4
    obtain ⟨k, a', c', rfl, hk, rfl, HO, HB⟩ := hrel
    by_cases hlt : k < X.length
    · obtain ⟨b, off, rfl, hb, hcc, hz⟩ := (HS.out.below (Nat.le_refl _) HB.out).at hlt
      have HZW := Lib.hid' (HS.out.each _ (List.getElem_mem hlt))
      have hy4 := HX4.out _ (List.getElem_mem hlt)
      have HNX := Lib.hid' (textUp_next (e := n) (n := X.length) (L := X.map (·.1)) (k := k) (by rw [HLM.out]; exact hlt))
      rw [List.getElem_map] at HNX
      have hTl : (textUp n (X.map (·.1)) X.length k).length ≤ 65536 := by
        have h1 := textUp_le n X.length k (X.map (·.1)); have h2 := HTL.out; rw [← HTA.out, HLM.out] at h2; rw [HLM.out] at h1; omega
      clear hz
      generalize X[k] = y at *
      obtain ⟨ys, ya, yc⟩ := y
      simp only at hcc hy4 HNX
      have HZ := Lib.hid' (show Zs w (.slice ya ys.length yc) ys from HZW.out)
      have HYU := Lib.hid' hy4.2
      have hy4 := hy4.1
      have HCH := Lib.hid' (chainB_u8 hy4 HYU.out)
      obtain ⟨T, hT⟩ : ∃ T, T = textUp n (X.map (·.1)) X.length k := ⟨_, rfl⟩
      rw [← hT] at HO HNX hTl ⊢
      clear hT HZW
      have hzr := HB.out.size
      have HB8 := Lib.hid' (show byteV (UInt8.ofNat ys.length) = .int .u8 (ys.length : Int) from ofNat_lo _ (by omega))
      go_wp2_with (at_builtin; refine append_one etBytes rfl (.tmp 25) (.tmp 29) rfl [.int .u8 (ys.length : Int)] rfl w.heap.size T.length (byteVs T) _ rfl HO.out rfl (by simp [Value.oneCell']) (by omega) hzr ?_)
      intro a5 c5 w5 ho5 hf5
      have HL5 := Lib.hid' (show (T ++ [UInt8.ofNat ys.length] ++ u8L (ys.take 0)).length = T.length + 1 by simp [u8L])
      have HO5 := Lib.hid' (show w5.ownsRow w.heap.size 5 1 (.slice a5 (T ++ [UInt8.ofNat ys.length] ++ u8L (ys.take 0)).length c5) (T ++ [UInt8.ofNat ys.length] ++ u8L (ys.take 0)).length (byteVs (T ++ [UInt8.ofNat ys.length] ++ u8L (ys.take 0))) by
        rw [HL5.out, show u8L (ys.take 0) = [] by simp [u8L], List.append_nil, byteVs_append, show byteVs [UInt8.ofNat ys.length] = [.int .u8 (ys.length : Int)] by rw [← HB8.out]; rfl]; exact ho5)
      have HB5 := Lib.hid' (hf5.row HO.out (Nat.le_refl _) hzr HB.out)
      clear ho5 hf5 hb hcc HO HB hzr HB8
      go_wp2_with fail
      go_loopw [3, 33] (fun v3 v33 ws => ∃ (j : Nat) (a2 : Option Addr) (c2 : Nat), v33 = .int .i64 j ∧ j ≤ ys.length ∧ v3 = .slice a2 (T ++ [UInt8.ofNat ys.length] ++ u8L (ys.take j)).length c2 ∧ Hid (ws.ownsRow w.heap.size 5 1 (.slice a2 (T ++ [UInt8.ofNat ys.length] ++ u8L (ys.take j)).length c2) (T ++ [UInt8.ofNat ys.length] ++ u8L (ys.take j)).length (byteVs (T ++ [UInt8.ofNat ys.length] ++ u8L (ys.take j)))) ∧ Hid (Below w.heap.size w ws)) (fun _ v33 _ => ys.length - (intOf v33).toNat)
      case atStart => exact ⟨0, a5, c5, rfl, Nat.zero_le _, by rw [HL5.out], HO5, HB5⟩
      case round =>
        clear HO5 HB5 HL5
        obtain ⟨j, a2, c2, rfl, hj, rfl, HO, HB⟩ := hrel
        by_cases hltj : j < ys.length
        · obtain ⟨b3, off3, rfl, hb3, hc3⟩ := (show Zs wr (.slice ya ys.length yc) ys from SlV.below HZ.out (Nat.le_refl _) HB.out).at hltj
          have HLT := Lib.hid' (show T ++ [UInt8.ofNat ys.length] ++ u8L (ys.take (j + 1)) = (T ++ [UInt8.ofNat ys.length] ++ u8L (ys.take j)) ++ [UInt8.ofNat ys[j].toNat] by rw [List.take_succ_eq_append_getElem hltj]; unfold u8L; rw [List.map_append, ← List.append_assoc]; rfl)
          have hu := HYU.out _ (List.getElem_mem hltj)
          have hrl : (T ++ [UInt8.ofNat ys.length] ++ u8L (ys.take j)).length ≤ 65542 := by simp only [List.length_append, u8L, List.length_map, List.length_take, List.length_cons, List.length_nil]; omega
          generalize ys[j] = u at *
          obtain ⟨m, rfl⟩ : ∃ m : Nat, u = m := ⟨u.toNat, by omega⟩
          have hm8 : m < 8 := by omega
          rw [Int.toNat_natCast] at HLT
          obtain ⟨R, hR⟩ : ∃ R, R = T ++ [UInt8.ofNat ys.length] ++ u8L (ys.take j) := ⟨_, rfl⟩
          rw [← hR] at HO HLT hrl ⊢
          have HB8 := Lib.hid' (show byteV (UInt8.ofNat m) = .int .u8 (m : Int) from ofNat_lo _ (by omega))
          have hzr := HB.out.size
          clear hR hu
          go_wp2_with (at_builtin; refine append_one etBytes rfl (.tmp 37) (.tmp 40) rfl [.int .u8 (m : Int)] rfl w.heap.size R.length (byteVs R) _ rfl HO.out rfl (by simp [Value.oneCell']) (by omega) hzr ?_)
          intro a9 c9 w9 ho9 hf9
          have HL9 := Lib.hid' (show (T ++ [UInt8.ofNat ys.length] ++ u8L (ys.take (j + 1))).length = R.length + 1 by rw [HLT.out]; simp)
          have HO9 := Lib.hid' (show w9.ownsRow w.heap.size 5 1 (.slice a9 (T ++ [UInt8.ofNat ys.length] ++ u8L (ys.take (j + 1))).length c9) (T ++ [UInt8.ofNat ys.length] ++ u8L (ys.take (j + 1))).length (byteVs (T ++ [UInt8.ofNat ys.length] ++ u8L (ys.take (j + 1)))) by
            rw [HL9.out, HLT.out, byteVs_append, show byteVs [UInt8.ofNat m] = [.int .u8 (m : Int)] by rw [← HB8.out]; rfl]; exact ho9)
          have HB9 := Lib.hid' (hf9.row HO.out (Nat.le_refl _) hzr HB.out)
          clear ho9 hf9
          go_wp2_with fail
          go_roundw
          case rel => exact ⟨j + 1, a9, c9, by go_num, by omega, by rw [HL9.out], HO9, HB9⟩
          case measure => simp [intOf]; omega
        · obtain rfl : j = ys.length := by omega
          have HTN := Lib.hid' (show T ++ [UInt8.ofNat ys.length] ++ u8L (ys.take ys.length) = textUp n (X.map (·.1)) X.length (k + 1) by rw [List.take_length, HNX.out, HCH.out, List.append_assoc])
          rw [HTN.out] at HO ⊢
          go_wp2_with fail
          go_roundw
          case rel => exact ⟨k + 1, a2, c2, by go_num, by omega, rfl, HO, HB⟩
          case measure => simp [intOf]; omega
    · obtain rfl : k = X.length := by omega
      have HTX := Lib.hid' (show textUp n (X.map (·.1)) X.length X.length = (docJ n X).text by have := HTA.out; rwa [HLM.out] at this)
      rw [HTX.out] at HO ⊢
      obtain ⟨T, hT⟩ : ∃ T, T = (docJ n X).text := ⟨_, rfl⟩
      rw [← hT] at HO HTL HPB ⊢
      clear hT
      have hfp := rFrame_any T a' c' wr (SlV.of_own HO.out) (by have := HTL.out; omega)
      rw [← HPB.out] at hfp
      have HFP := Lib.hid' hfp
      clear hfp
      go_wp2_with fail
      refine HFP.out.mono ?_
      rintro en w9 ⟨a9, c9, rfl, ho9, hb9⟩
      have HRET := Lib.hid' (own_base ho9 HB.out.size)
      have HB9 := Lib.hid' (HB.out.trans (hb9.mono HB.out.size))
      clear ho9 hb9 HFP
      go_wp2
      go_ret
      exact ⟨a9, c9, rfl, HRET.out, HB9.out⟩
end Go.Proofs.YtjkbcjliaacebaaGreat
