/- Layer 3 (sha): the digest of a text. -/
import Derived.Test.YtinbcehlpfnlaaaGreatDoorShaC
import Derived.Test.YtinbcehlpfnlaaaGreatDoorShaD
import Derived.Test.YtinbcehlpfnlaaaGreatDoorShaE
import Derived.RangeFuncFrom
namespace Go.Proofs.YtinbcehlpfnlaaaGreatDoor
open Go.RowKit Go.Shelf
set_option linter.unusedSimpArgs false
set_option linter.unusedVariables false
set_option maxRecDepth 100000
attribute [local go_sem] Oper.semAt_some

theorem chunk_any (a : Option Addr) (n c : Nat) (w : World) : Calls Tryz.prog 83 #[.slice a n c, .int .i64 64] w fun e w' =>
    e = .returned (.func (.func 89) #[] #[.pointer (some ⟨w.heap.size, 0, none⟩), .pointer (some ⟨w.heap.size + 1, 0, none⟩)]) ∧ w' = (w.alloc (.cells #[.slice a n c] 85)).alloc (.cells #[.int .i64 64] 3) := by
  go_enter Tryz.func83, Tryz.ntmps83
  go_wp2
  go_ret
  exact ⟨rfl, rfl⟩
theorem grown_drew (W : World) : W.grownBy W.drew none := ⟨rfl, rfl, rfl, Nat.le_refl _, fun _ _ _ => rfl⟩
theorem chunk_stops (n : Nat) (hn : 1 ≤ n) (Bs Bn rb cap m : Nat) (hm : 64 * m ≤ cap) (hcap : cap ≤ 9223372036854775807) (hmb : m ≤ 1099511627776) (w : World) (h1 : Bs < w.heap.size) (h2 : Bn < w.heap.size)
    (hs : w.cell? ⟨Bs, 0, none⟩ = some (.slice (some ⟨rb, 0, none⟩) (64 * m) cap)) (hb : w.cell? ⟨Bn, 0, none⟩ = some (.int .i64 64)) :
    SeqStopsK Fence.wide n Tryz.prog 89 #[.pointer (some ⟨Bs, 0, none⟩), .pointer (some ⟨Bn, 0, none⟩)] (fun x : Fin m => #[Value.slice (some ⟨rb, 64 * x.1, none⟩) 64 64]) (KpC Bs Bn) (fun ys => ys.map (·.1) = List.range m) (fun _ => True) m w :=
  fun l J Jx W hW hJ hJx hY h0 => chunk1_in n hn l Bs Bn rb cap m hm hcap hmb J Jx (fun pre W1 h => hJ pre W1 W1.drew none h (grown_drew W1) (fun r e => by cases e)) hY W ((hW.cell h1).trans hs) ((hW.cell h2).trans hb) h0
def foldS (T : List UInt8) {m : Nat} (pre : List (Fin m)) : H8 := pre.foldl (fun s x => stepS s ((T.drop (64 * x.1)).take 64)) shaH
theorem foldS_all (T : List UInt8) {m : Nat} (pre : List (Fin m)) (h : pre.map (·.1) = List.range m) : foldS T pre = blocks T m shaH := by
  have h1 : foldS T pre = (pre.map (·.1)).foldl (fun s i => stepS s ((T.drop (64 * i)).take 64)) shaH := by rw [List.foldl_map]; rfl
  rw [h1, h]
  clear h1 h
  induction m with
  | zero => rfl
  | succ k ih => rw [List.range_succ, List.foldl_append, ih []]; rfl
theorem foldS_snoc (T : List UInt8) {m : Nat} (pre : List (Fin m)) (x : Fin m) : foldS T (pre ++ [x]) = stepS (foldS T pre) ((T.drop (64 * x.1)).take 64) := by unfold foldS; rw [List.foldl_append]; rfl
theorem Sep.grown {w0 W W' : World} {L : List Asn} (h : Sep w0 NoF L W) {row : Option Nat} (hg : W.grownBy W' row) (hr : ∀ r, row = some r → w0.heap.size ≤ r ∧ ∀ A ∈ L, ¬ A.foot r) : Sep w0 NoF L W' :=
  ⟨h.fr.trans (F' := fun k => row = some k) ⟨hg.os, hg.tape, hg.output, hg.size, fun k hk hn => hg.block k hk (fun e => hn e.symm)⟩ (fun i hi => .inr (hr i hi).1),
    fun A hA => A.keep W W' (h.each A hA) (fun b hb => hg.block b (A.lt W (h.each A hA) b hb) (fun e => (hr b e.symm).2 A hA hb)), h.apart, h.new⟩
theorem keeps_below {W W' : World} (h : Below W.heap.size W W') : KeepsOthers W W' := ⟨h.size, fun k o hk _ => (h.block k (Array.getElem?_eq_some_iff.1 hk).1).trans hk⟩
def Solid (A : Asn) : Prop := ∀ w b, A.holds w → A.foot b → ∃ c t fz, w.heap[b]? = some (Obj.cells c t fz)
theorem solid_box (N : Nat) (R : List Value) (t : Nat) : Solid (.box N R t) := fun w b h hb => ⟨R.toArray, t, (0, 0), by have hb : b = N := hb; rw [hb]; exact h⟩
theorem solid_row (e size : Nat) (v : Value) (n : Nat) (xs : List Value) : Solid (.row e size v n xs) := fun w b h hb => by
  have hb : v.ownBlock = some b := hb
  obtain ⟨_, h2⟩ := h
  rcases h2 with ⟨rfl, _⟩ | ⟨g, cap, cur, rfl, _, hh, _⟩
  · cases hb
  · have hb : some g = some b := hb
    cases hb; exact ⟨cur, e, (0, 0), hh⟩
theorem Sep.grownS {w0 W W' : World} {L : List Asn} (h : Sep w0 NoF L W) (hs : ∀ A ∈ L, Solid A) {row : Option Nat} (hg : W.grownBy W' row) (hr : ∀ r, row = some r → w0.heap.size ≤ r ∧ ∃ o : Obj, W.heap[r]? = some o ∧ o.isCells = false) : Sep w0 NoF L W' :=
  h.grown hg (fun r e => ⟨(hr r e).1, fun A hA hf => by
    obtain ⟨o, ho, hc⟩ := (hr r e).2
    obtain ⟨c, t, fz, hh⟩ := hs A hA W r (h.each A hA) hf
    rw [hh] at ho; cases ho; cases hc⟩)
theorem slv_sub {w : World} {rb m c : Nat} {T : List UInt8} (h : SlV w (.slice (some ⟨rb, 0, none⟩) (64 * m) c) (64 * m) (byteVs T)) (hl : T.length = 64 * m) {i : Nat} (hi : i < m) :
    SlV w (.slice (some ⟨rb, 64 * i, none⟩) 64 64) 64 (byteVs ((T.drop (64 * i)).take 64)) := by
  obtain ⟨b', off, he, hb, hc⟩ := SlV.addr h (by intro h0; have := congrArg List.length h0; rw [byteVs_length'] at this; simp at this; rw [this] at hl; simp at hl; omega)
  cases he
  refine ⟨_, _, rfl, Nat.le_refl _, by decide, by simp, fun j u hu => ⟨_, rfl, ?_⟩⟩
  rw [add_lit]
  have hj : j < 64 := by have := (List.getElem?_eq_some_iff.1 hu).1; rw [byteVs_length'] at this; simp at this; omega
  have h2 := hc (64 * i + j) u (by
    rw [← hu]
    simp only [byteVs, List.getElem?_map]
    congr 1
    rw [List.getElem?_take, if_pos hj, List.getElem?_drop])
  rw [Nat.zero_add] at h2
  exact h2
def dig (S : List W32) (k : Nat) : List Value := byteVs ((S.take k).flatMap four8) ++ List.replicate (32 - 4 * k) (.int .u8 0)
theorem flat4_len (S : List W32) : (S.flatMap four8).length = 4 * S.length := by
  induction S with
  | nil => rfl
  | cons x S ih => rw [List.flatMap_cons, List.length_append, ih, List.length_cons]; simp [four8]; omega
theorem dig_pre (S : List W32) {k : Nat} (h : k ≤ S.length) : (byteVs ((S.take k).flatMap four8)).length = 4 * k := by
  rw [byteVs_length', flat4_len, List.length_take]; omega
theorem dig_len (S : List W32) {k : Nat} (h : k ≤ S.length) (h8 : S.length = 8) : (dig S k).length = 32 := by
  unfold dig; rw [List.length_append, dig_pre S h, List.length_replicate]; omega
theorem dig_step (S : List W32) {k : Nat} (h : k < S.length) (h8 : S.length = 8) : (dig S k).take (4 * k) ++ (byteVs (four8 (S.getD k 0)) ++ (dig S k).drop (4 * k + 4)) = dig S (k + 1) := by
  have hp := dig_pre S (Nat.le_of_lt h)
  unfold dig
  rw [List.take_append_of_le_length (by omega), List.take_of_length_le (by omega), List.drop_append, List.drop_of_length_le (by omega), List.nil_append, hp, List.drop_replicate, List.take_succ_eq_append_getElem h, List.flatMap_append, byteVs_append]
  simp [h]
  omega
theorem dig_all (s : H8) : dig s.list 8 = byteVs s.bytes := by
  unfold dig H8.bytes
  rw [List.take_of_length_le (by rw [len8]; omega)]
  simp
theorem dig_zero (S : List W32) : dig S 0 = List.replicate 32 (.int .u8 0) := by simp [dig, byteVs]
theorem index_arr8 (S : List W32) (h : S.length = 8) {k : Nat} (hk : k < 8) (w : World) : (Instr.index 143 (.agg (S.map wV).toArray) (.int .i64 (k : Int))).run Tryz.prog w = .ok (.int .u32 ((wN (S.getD k 0) : Nat) : Int)) w := by
  have hs : S[k]? = some (S.getD k 0) := by simp [show k < S.length by omega]
  have hk2 : (k : Int) < 8 := by omega
  generalize S.getD k 0 = y at *
  simp [Instr.index, asIntOf, go_sem, Tryz.underlying143, hk2, hk, hs, wV]
def zeroD : List Value := List.replicate 32 (.int .u8 0)
theorem zero32 : (#[.int .u8 0, .int .u8 0, .int .u8 0, .int .u8 0, .int .u8 0, .int .u8 0, .int .u8 0, .int .u8 0, .int .u8 0, .int .u8 0, .int .u8 0, .int .u8 0, .int .u8 0, .int .u8 0, .int .u8 0, .int .u8 0, .int .u8 0, .int .u8 0, .int .u8 0, .int .u8 0, .int .u8 0, .int .u8 0, .int .u8 0, .int .u8 0, .int .u8 0, .int .u8 0, .int .u8 0, .int .u8 0, .int .u8 0, .int .u8 0, .int .u8 0, .int .u8 0] : Array Value) = zeroD.toArray := rfl
theorem Laid.fs {w : World} (h : Laid w) : w.cell? ⟨0, 0, none⟩ = some (.int .u32 ((wN (shaH.a) : Nat) : Int)) ∧ w.cell? ⟨0, 1, none⟩ = some (.int .u32 ((wN (shaH.b) : Nat) : Int)) ∧ w.cell? ⟨0, 2, none⟩ = some (.int .u32 ((wN (shaH.c) : Nat) : Int)) ∧ w.cell? ⟨0, 3, none⟩ = some (.int .u32 ((wN (shaH.d) : Nat) : Int)) ∧ w.cell? ⟨0, 4, none⟩ = some (.int .u32 ((wN (shaH.e) : Nat) : Int)) ∧ w.cell? ⟨0, 5, none⟩ = some (.int .u32 ((wN (shaH.f) : Nat) : Int)) ∧ w.cell? ⟨0, 6, none⟩ = some (.int .u32 ((wN (shaH.g) : Nat) : Int)) ∧ w.cell? ⟨0, 7, none⟩ = some (.int .u32 ((wN (shaH.h) : Nat) : Int)) := by
  refine ⟨by have := h.f 0 (wV shaH.a) rfl; simpa [wV] using this, by have := h.f 1 (wV shaH.b) rfl; simpa [wV] using this, by have := h.f 2 (wV shaH.c) rfl; simpa [wV] using this, by have := h.f 3 (wV shaH.d) rfl; simpa [wV] using this, by have := h.f 4 (wV shaH.e) rfl; simpa [wV] using this, by have := h.f 5 (wV shaH.f) rfl; simpa [wV] using this, by have := h.f 6 (wV shaH.g) rfl; simpa [wV] using this, by have := h.f 7 (wV shaH.h) rfl; simpa [wV] using this⟩
set_option maxHeartbeats 8000000 in
theorem of1_any (t : List UInt8) (ta : Option Addr) (tc : Nat) (w : World) (hT : Bytes w (.slice ta t.length tc) t) (hl : t.length ≤ 1073741824) (pb : Nat) (hp : w.cell? ⟨pb, 0, none⟩ = some (.slice ta t.length tc)) (hL : Laid w) :
    Calls Tryz.prog 73 #[.slice (some ⟨pb, 0, none⟩) 1 1] w fun e w' => e = .returned (.agg (byteVs (shaB t)).toArray) ∧ Below w.heap.size w w' := by
  have HT := Lib.hid' hT
  have HL := Lib.hid' hL
  obtain ⟨f0, f1, f2, f3, f4, f5, f6, f7⟩ := hL.fs
  have hgf := cell_lt f0
  have hpl := cell_lt hp
  simp only at hgf hpl
  clear hT hL
  refine (callsIn_wide (n := 5)).1 ?_
  refine callsIn_of_wp_marks Tryz.func73 rfl trivial ?_ rfl
  simp only [Tryz.ntmps73, List.size_toArray, List.length_cons, List.length_nil, Nat.reduceAdd, Nat.reduceSub, Array.replicate_succ, Array.replicate_zero, List.push_toArray, List.append_toArray, List.nil_append, List.cons_append]
  refine wpIn_wide.2 ?_
  go_upto_region 3 with fail
  rw [zero32]
  have H1 : Sep w NoF [.box (w.heap.size + 1) shaH.vals 143, .box w.heap.size zeroD 45] ((w.alloc (.cells zeroD.toArray 45)).alloc (.cells #[.int .u32 ((wN (shaH.a) : Nat) : Int), .int .u32 ((wN (shaH.b) : Nat) : Int), .int .u32 ((wN (shaH.c) : Nat) : Int), .int .u32 ((wN (shaH.d) : Nat) : Int), .int .u32 ((wN (shaH.e) : Nat) : Int), .int .u32 ((wN (shaH.f) : Nat) : Int), .int .u32 ((wN (shaH.g) : Nat) : Int), .int .u32 ((wN (shaH.h) : Nat) : Int)] 143)) := (((Sep.start w).allocAt (w.heap.size) zeroD 45 rfl).allocAt (w.heap.size + 1) shaH.vals 143 (by simp))
  generalize (w.alloc (.cells zeroD.toArray 45)).alloc (.cells #[.int .u32 ((wN (shaH.a) : Nat) : Int), .int .u32 ((wN (shaH.b) : Nat) : Int), .int .u32 ((wN (shaH.c) : Nat) : Int), .int .u32 ((wN (shaH.d) : Nat) : Int), .int .u32 ((wN (shaH.e) : Nat) : Int), .int .u32 ((wN (shaH.f) : Nat) : Int), .int .u32 ((wN (shaH.g) : Nat) : Int), .int .u32 ((wN (shaH.h) : Nat) : Int)] 143) = w1 at *
  obtain ⟨nx, hnx⟩ : ∃ n, n = w.heap.size + 1 := ⟨_, rfl⟩
  rw [← hnx] at H1 ⊢
  have hnp : ¬ w.heap.size = nx := by omega
  clear hnx
  clear f0 f1 f2 f3 f4 f5 f6 f7 hgf
  go_wp2_with fail
  go_loopw [15, 5, 4] (fun v15 v5 v4 wr => ∃ (k : Nat) (u : List UInt8) (a : Option Addr) (c : Nat), v15 = .int .i64 k ∧ k ≤ 1 ∧ v5 = .int .i64 (u.length : Nat) ∧ v4 = .slice a u.length c ∧ Hid (u = if k = 0 then [] else t) ∧ Sep w NoF [.row 5 1 (.slice a u.length c) u.length (byteVs u), .box nx shaH.vals 143, .box w.heap.size zeroD 45] wr) (fun v15 _ _ _ => 1 - (intOf v15).toNat)
  case atStart => exact ⟨0, [], none, 0, rfl, Nat.zero_le _, rfl, rfl, Lib.hid' rfl, H1.nilRow _ _⟩
  case round =>
    clear H1
    obtain ⟨k, u, a, c, rfl, hk, rfl, rfl, HU, H0⟩ := hrel
    by_cases hk0 : k = 0
    · have hu0 : u.length = 0 := by rw [HU.out, if_pos hk0]; rfl
      have HK0 := Lib.hid' hk0
      have hk1 : (k : Int) < 1 := by omega
      have HUL := Lib.hid' hu0
      have hul : u.length ≤ 1073741824 := by omega
      have hp' : wr.cell? ⟨pb, k, none⟩ = some (.slice ta t.length tc) := by rw [hk0]; exact (H0.toBelow.cell (p := ⟨pb, 0, none⟩) hpl).trans hp
      have hw1 : IntKind.i64.wrap ((u.length : Int) + (t.length : Int)) = ((u ++ t).length : Int) := by rw [List.length_append]; rw [IntWalk.i64_in _ (by omega)]; simp
      clear hu0 hk0
      go_wp2_with (at_builtin; refine Sep.appendSl etBytes rfl (.tmp 23) (.tmp 24) rfl H0 0 rfl rfl t.length (byteVs t) _ rfl (H0.old0 HT.out) (by simp [byteVs]) (byteVs_one _) (by omega) ?_)
      intro a2 c2 w2 HA
      have HUA := Lib.hid' (show u ++ t = if k + 1 = 0 then [] else t by rw [HU.out, if_pos HK0.out, if_neg (by omega)]; rfl)
      have HLA := Lib.hid' (show (u ++ t).length = u.length + t.length from List.length_append)
      have H2 : Sep w NoF [.row 5 1 (.slice a2 (u ++ t).length c2) (u ++ t).length (byteVs (u ++ t)), .box nx shaH.vals 143, .box w.heap.size zeroD 45] w2 := by rw [HLA.out, byteVs_append]; exact HA
      clear HA H0 hp'
      go_wp2_with fail
      go_roundw
      case rel => exact ⟨k + 1, u ++ t, a2, c2, by go_num, by omega, by rw [HLA.out]; simp, by rw [HLA.out], HUA, H2⟩
      case measure => simp [intOf]; omega
    obtain rfl : k = 1 := by omega
    obtain rfl : u = t := by rw [HU.out]; rfl
    clear HU hk0 hk
    rw [show (((1 : Nat) : Int)) = (1 : Int) from rfl]
    go_wp2_with fail
    refine (pad_any u.length (by omega) _).mono ?_
    rintro en w2 ⟨a2, c2, rfl, ho2, hb2⟩
    have H2 := H0.belowRow hb2 ho2
    clear ho2 hb2 H0
    obtain ⟨D, hD⟩ : ∃ D, D = padB u.length := ⟨_, rfl⟩
    have HDD := Lib.hid' hD
    have hdl : D.length ≤ 80 := by rw [hD, padB_len]; unfold padZ; omega
    have hd0 : 0 < D.length := by rw [hD, padB_len]; omega
    have hfull : (u.length + D.length) % 64 = 0 := by rw [hD]; exact pad_full _
    rw [← hD] at H2 ⊢
    clear hD
    go_wp2_with (at_builtin; refine Sep.appendSl etBytes rfl (.tmp 27) (.tmp 29) rfl H2 1 rfl rfl D.length (byteVs D) _ rfl (SlV.of_own (H2.row 0 rfl)) (by simp [byteVs]) (byteVs_one _) (by omega) ?_)
    intro a3 c3 w3 HA
    obtain ⟨T, hT⟩ : ∃ T, T = u ++ D := ⟨_, rfl⟩
    have HTT := Lib.hid' (show T = u ++ padB u.length by rw [hT, HDD.out])
    obtain ⟨m, hm⟩ : ∃ m, u.length + D.length = 64 * m := ⟨(u.length + D.length) / 64, by omega⟩
    have HTL := Lib.hid' (show T.length = 64 * m by rw [hT, List.length_append, hm])
    have H4 : Sep w NoF [.row 5 1 (.slice a3 (64 * m) c3) (64 * m) (byteVs T), .box nx shaH.vals 143, .box w.heap.size zeroD 45] w3 := by
      have h5 := HA.drop 1
      rw [← byteVs_append, ← hT, hm] at h5
      exact h5
    have hm0 : 0 < m := by omega
    have hm1 : m ≤ 33554432 := by omega
    rw [hm]
    clear HA H2 hT hm HDD hdl hd0 hfull
    obtain ⟨rb, hc3, rfl⟩ : ∃ rb, (64 * m ≤ c3 ∧ c3 ≤ 9223372036854775807) ∧ a3 = some ⟨rb, 0, none⟩ := by
      obtain ⟨_, h5⟩ := H4.row 0 rfl
      rcases h5 with ⟨_, h0⟩ | ⟨g, cap, cur, he, _, _, h1, h2, _⟩
      · omega
      · cases he; exact ⟨g, ⟨h1, by unfold maxLen at h2; omega⟩, rfl⟩
    go_wp2_with fail
    refine (chunk_any (some ⟨rb, 0, none⟩) (64 * m) c3 w3).mono ?_
    rintro e w4 ⟨rfl, rfl⟩
    have H5 : Sep w NoF [.box (w3.heap.size + 1) [.int .i64 64] 3, .box w3.heap.size [.slice (some ⟨rb, 0, none⟩) (64 * m) c3] 85, .row 5 1 (.slice (some ⟨rb, 0, none⟩) (64 * m) c3) (64 * m) (byteVs T), .box nx shaH.vals 143, .box w.heap.size zeroD 45] ((w3.alloc (.cells #[.slice (some ⟨rb, 0, none⟩) (64 * m) c3] 85)).alloc (.cells #[.int .i64 64] 3)) :=
      ((H4.allocAt (w3.heap.size) [.slice (some ⟨rb, 0, none⟩) (64 * m) c3] 85 rfl).allocAt (w3.heap.size + 1) [.int .i64 64] 3 (by simp))
    generalize (w3.alloc (.cells #[.slice (some ⟨rb, 0, none⟩) (64 * m) c3] 85)).alloc (.cells #[.int .i64 64] 3) = w5 at *
    generalize w3.heap.size + 1 = bn at *
    generalize w3.heap.size = bs at *
    clear H4
    go_wp2_with fail
    have H6 := H5.focus 3 rfl
    clear H5
    have HLs := fun (s : H8) => (show ∀ A ∈ [Asn.box nx s.vals 143, .box bn [.int .i64 64] 3, .box bs [.slice (some ⟨rb, 0, none⟩) (64 * m) c3] 85, .row 5 1 (.slice (some ⟨rb, 0, none⟩) (64 * m) c3) (64 * m) (byteVs T), .box w.heap.size zeroD 45], Solid A from by
      intro A hA
      simp only [List.mem_cons, List.not_mem_nil, or_false] at hA
      rcases hA with rfl | rfl | rfl | rfl | rfl <;> first | exact solid_box _ _ _ | exact solid_row _ _ _ _ _)
    have hsz : w.heap.size ≤ w5.heap.size := H6.toBelow.size
    refine (wpIn_wide (n := 5)).1 ?_
    apply wpIn_rangeFunc_ownF (α := Fin m) rfl (by decide) (gf := 89) (lb := #[.pointer (some ⟨bs, 0, none⟩), .pointer (some ⟨bn, 0, none⟩)]) rfl trivial (enters_of Tryz.func89 (by kernel_rfl) rfl)
      (chunk_stops 4 (by decide) bs bn rb c3 m hc3.1 hc3.2 (by omega) w5 (H6.lt 2 rfl) (H6.lt 1 rfl) (H6.cell 2 rfl 0 rfl) (H6.cell 1 rfl 0 rfl))
      (fun h k => ⟨k.1.trans h.1, k.2.trans h.2⟩)
      (fun W l o o' hl hh _ _ => by
        have h1 := H6.lt 2 rfl
        have h2 := H6.lt 1 rfl
        exact ⟨World.cell?_of_block (World.putObj_heap_other (fun e => by simp at e; omega)), World.cell?_of_block (World.putObj_heap_other (fun e => by simp at e; omega))⟩)
      (Below.refl _ _) (fun _ => rfl)
      (fun pre W => Sep w NoF [.box nx (foldS T pre).vals 143, .box bn [.int .i64 64] 3, .box bs [.slice (some ⟨rb, 0, none⟩) (64 * m) c3] 85, .row 5 1 (.slice (some ⟨rb, 0, none⟩) (64 * m) c3) (64 * m) (byteVs T), .box w.heap.size zeroD 45] W)
      (fun _ _ _ => False)
      (fun pre W W' row hs hg hr => hs.grownS (HLs _) hg (fun r e => ⟨Nat.le_trans hsz (hr r e).1, (hr r e).2⟩))
      (fun _ _ _ _ _ hs _ _ => hs) H6
    case hassign =>
      intro l x W K hK
      gi_wp2
      exact hK
    case hbody =>
      intro l pre x W hI hlen
      have HFS := Lib.hid' (foldS_snoc T pre x)
      have hb64 : ((T.drop (64 * x.1)).take 64).length = 64 := by have := HTL.out; have := x.2; simp; omega
      have hsl := slv_sub (SlV.of_own (hI.row 3 rfl)) HTL.out x.2
      have hla := HL.out.below (Nat.le_refl _) hI.toBelow
      generalize foldS T pre = s at *
      replace hI : Sep w NoF [.box nx [.int .u32 ((wN (s.a) : Nat) : Int), .int .u32 ((wN (s.b) : Nat) : Int), .int .u32 ((wN (s.c) : Nat) : Int), .int .u32 ((wN (s.d) : Nat) : Int), .int .u32 ((wN (s.e) : Nat) : Int), .int .u32 ((wN (s.f) : Nat) : Int), .int .u32 ((wN (s.g) : Nat) : Int), .int .u32 ((wN (s.h) : Nat) : Int)] 143, .box bn [.int .i64 64] 3, .box bs [.slice (some ⟨rb, 0, none⟩) (64 * m) c3] 85, .row 5 1 (.slice (some ⟨rb, 0, none⟩) (64 * m) c3) (64 * m) (byteVs T), .box w.heap.size zeroD 45] W := hI
      have HST := Lib.hid' (sstep_any s _ hb64 _ _ W hsl hla)
      generalize stepS s ((T.drop (64 * x.1)).take 64) = s2 at *
      clear hb64 hsl hla
      have x0 := hI.cell 0 rfl 0 rfl; have x1 := hI.cell 0 rfl 1 rfl; have x2 := hI.cell 0 rfl 2 rfl; have x3 := hI.cell 0 rfl 3 rfl
      have x4 := hI.cell 0 rfl 4 rfl; have x5 := hI.cell 0 rfl 5 rfl; have x6 := hI.cell 0 rfl 6 rfl; have x7 := hI.cell 0 rfl 7 rfl
      gi_wp2
      refine ⟨trivial, ?_⟩
      refine (CallsIn.inRound l (callsIn_wide.2 HST.out)).mono ?_
      rintro e W2 ⟨rfl, hb⟩
      have hI2 := hI.below hb
      have y0 := hI2.cell 0 rfl 0 rfl; have y1 := hI2.cell 0 rfl 1 rfl; have y2 := hI2.cell 0 rfl 2 rfl; have y3 := hI2.cell 0 rfl 3 rfl
      have y4 := hI2.cell 0 rfl 4 rfl; have y5 := hI2.cell 0 rfl 5 rfl; have y6 := hI2.cell 0 rfl 6 rfl; have y7 := hI2.cell 0 rfl 7 rfl
      have z0 := hI2.free 0 rfl 0; have z1 := hI2.free 0 rfl 1; have z2 := hI2.free 0 rfl 2; have z3 := hI2.free 0 rfl 3
      have z4 := hI2.free 0 rfl 4; have z5 := hI2.free 0 rfl 5; have z6 := hI2.free 0 rfl 6; have z7 := hI2.free 0 rfl 7
      have hyl := hI2.lt 0 rfl
      have H3 : Sep w NoF [.box nx [.int .u32 ((wN (s2.a) : Nat) : Int), .int .u32 ((wN (s2.b) : Nat) : Int), .int .u32 ((wN (s2.c) : Nat) : Int), .int .u32 ((wN (s2.d) : Nat) : Int), .int .u32 ((wN (s2.e) : Nat) : Int), .int .u32 ((wN (s2.f) : Nat) : Int), .int .u32 ((wN (s2.g) : Nat) : Int), .int .u32 ((wN (s2.h) : Nat) : Int)] 143, .box bn [.int .i64 64] 3, .box bs [.slice (some ⟨rb, 0, none⟩) (64 * m) c3] 85, .row 5 1 (.slice (some ⟨rb, 0, none⟩) (64 * m) c3) (64 * m) (byteVs T), .box w.heap.size zeroD 45] ((((((((W2.setCell ⟨nx, 0, none⟩ (.int .u32 ((wN (s2.a) : Nat) : Int))).setCell ⟨nx, 1, none⟩ (.int .u32 ((wN (s2.b) : Nat) : Int))).setCell ⟨nx, 2, none⟩ (.int .u32 ((wN (s2.c) : Nat) : Int))).setCell ⟨nx, 3, none⟩ (.int .u32 ((wN (s2.d) : Nat) : Int))).setCell ⟨nx, 4, none⟩ (.int .u32 ((wN (s2.e) : Nat) : Int))).setCell ⟨nx, 5, none⟩ (.int .u32 ((wN (s2.f) : Nat) : Int))).setCell ⟨nx, 6, none⟩ (.int .u32 ((wN (s2.g) : Nat) : Int))).setCell ⟨nx, 7, none⟩ (.int .u32 ((wN (s2.h) : Nat) : Int))) := ((((((((hI2.set 0 rfl 0 (.int .u32 ((wN (s2.a) : Nat) : Int))).set 0 rfl 1 (.int .u32 ((wN (s2.b) : Nat) : Int))).set 0 rfl 2 (.int .u32 ((wN (s2.c) : Nat) : Int))).set 0 rfl 3 (.int .u32 ((wN (s2.d) : Nat) : Int))).set 0 rfl 4 (.int .u32 ((wN (s2.e) : Nat) : Int))).set 0 rfl 5 (.int .u32 ((wN (s2.f) : Nat) : Int))).set 0 rfl 6 (.int .u32 ((wN (s2.g) : Nat) : Int))).set 0 rfl 7 (.int .u32 ((wN (s2.h) : Nat) : Int)))
      have HKO : KeepsOthers W ((((((((W2.setCell ⟨nx, 0, none⟩ (.int .u32 ((wN (s2.a) : Nat) : Int))).setCell ⟨nx, 1, none⟩ (.int .u32 ((wN (s2.b) : Nat) : Int))).setCell ⟨nx, 2, none⟩ (.int .u32 ((wN (s2.c) : Nat) : Int))).setCell ⟨nx, 3, none⟩ (.int .u32 ((wN (s2.d) : Nat) : Int))).setCell ⟨nx, 4, none⟩ (.int .u32 ((wN (s2.e) : Nat) : Int))).setCell ⟨nx, 5, none⟩ (.int .u32 ((wN (s2.f) : Nat) : Int))).setCell ⟨nx, 6, none⟩ (.int .u32 ((wN (s2.g) : Nat) : Int))).setCell ⟨nx, 7, none⟩ (.int .u32 ((wN (s2.h) : Nat) : Int))) := (KeepsOthers.trans (KeepsOthers.trans (KeepsOthers.trans (KeepsOthers.trans (KeepsOthers.trans (KeepsOthers.trans (KeepsOthers.trans (KeepsOthers.trans (keeps_below hb) (KeepsOthers.setCell _ _ _)) (KeepsOthers.setCell _ _ _)) (KeepsOthers.setCell _ _ _)) (KeepsOthers.setCell _ _ _)) (KeepsOthers.setCell _ _ _)) (KeepsOthers.setCell _ _ _)) (KeepsOthers.setCell _ _ _)) (KeepsOthers.setCell _ _ _))
      have HEND := Lib.hid' (show KeepsOthers W ((((((((W2.setCell ⟨nx, 0, none⟩ (.int .u32 ((wN (s2.a) : Nat) : Int))).setCell ⟨nx, 1, none⟩ (.int .u32 ((wN (s2.b) : Nat) : Int))).setCell ⟨nx, 2, none⟩ (.int .u32 ((wN (s2.c) : Nat) : Int))).setCell ⟨nx, 3, none⟩ (.int .u32 ((wN (s2.d) : Nat) : Int))).setCell ⟨nx, 4, none⟩ (.int .u32 ((wN (s2.e) : Nat) : Int))).setCell ⟨nx, 5, none⟩ (.int .u32 ((wN (s2.f) : Nat) : Int))).setCell ⟨nx, 6, none⟩ (.int .u32 ((wN (s2.g) : Nat) : Int))).setCell ⟨nx, 7, none⟩ (.int .u32 ((wN (s2.h) : Nat) : Int))) ∧ KpC bs bn W ((((((((W2.setCell ⟨nx, 0, none⟩ (.int .u32 ((wN (s2.a) : Nat) : Int))).setCell ⟨nx, 1, none⟩ (.int .u32 ((wN (s2.b) : Nat) : Int))).setCell ⟨nx, 2, none⟩ (.int .u32 ((wN (s2.c) : Nat) : Int))).setCell ⟨nx, 3, none⟩ (.int .u32 ((wN (s2.d) : Nat) : Int))).setCell ⟨nx, 4, none⟩ (.int .u32 ((wN (s2.e) : Nat) : Int))).setCell ⟨nx, 5, none⟩ (.int .u32 ((wN (s2.f) : Nat) : Int))).setCell ⟨nx, 6, none⟩ (.int .u32 ((wN (s2.g) : Nat) : Int))).setCell ⟨nx, 7, none⟩ (.int .u32 ((wN (s2.h) : Nat) : Int))) ∧ Sep w NoF [.box nx (foldS T (pre ++ [x])).vals 143, .box bn [.int .i64 64] 3, .box bs [.slice (some ⟨rb, 0, none⟩) (64 * m) c3] 85, .row 5 1 (.slice (some ⟨rb, 0, none⟩) (64 * m) c3) (64 * m) (byteVs T), .box w.heap.size zeroD 45] ((((((((W2.setCell ⟨nx, 0, none⟩ (.int .u32 ((wN (s2.a) : Nat) : Int))).setCell ⟨nx, 1, none⟩ (.int .u32 ((wN (s2.b) : Nat) : Int))).setCell ⟨nx, 2, none⟩ (.int .u32 ((wN (s2.c) : Nat) : Int))).setCell ⟨nx, 3, none⟩ (.int .u32 ((wN (s2.d) : Nat) : Int))).setCell ⟨nx, 4, none⟩ (.int .u32 ((wN (s2.e) : Nat) : Int))).setCell ⟨nx, 5, none⟩ (.int .u32 ((wN (s2.f) : Nat) : Int))).setCell ⟨nx, 6, none⟩ (.int .u32 ((wN (s2.g) : Nat) : Int))).setCell ⟨nx, 7, none⟩ (.int .u32 ((wN (s2.h) : Nat) : Int))) from
        ⟨HKO, ⟨(H3.cell 2 rfl 0 rfl).trans (hI.cell 2 rfl 0 rfl).symm, (H3.cell 1 rfl 0 rfl).trans (hI.cell 1 rfl 0 rfl).symm⟩, by rw [HFS.out]; exact H3⟩)
      clear H3 HKO hI2 hI hb x0 x1 x2 x3 x4 x5 x6 x7
      unfold H8.vals wV
      gi_wp2
      exact HEND.out
    case hdone =>
      intro D xs W hD hS hI hK
      have HF := Lib.hid' (foldS_all T xs hS)
      rw [HF.out] at hI
      obtain ⟨q, hq⟩ : ∃ q, q = blocks T m shaH := ⟨_, rfl⟩
      rw [← hq] at hI
      have HSB := Lib.hid' (show shaB u = q.bytes by unfold shaB; rw [← HTT.out, HTL.out, Nat.mul_div_cancel_left m (by decide), ← hq])
      clear hq
      replace hI : Sep w NoF [.box nx [.int .u32 ((wN (q.a) : Nat) : Int), .int .u32 ((wN (q.b) : Nat) : Int), .int .u32 ((wN (q.c) : Nat) : Int), .int .u32 ((wN (q.d) : Nat) : Int), .int .u32 ((wN (q.e) : Nat) : Int), .int .u32 ((wN (q.f) : Nat) : Int), .int .u32 ((wN (q.g) : Nat) : Int), .int .u32 ((wN (q.h) : Nat) : Int)] 143, .box bn [.int .i64 64] 3, .box bs [.slice (some ⟨rb, 0, none⟩) (64 * m) c3] 85, .row 5 1 (.slice (some ⟨rb, 0, none⟩) (64 * m) c3) (64 * m) (byteVs T), .box w.heap.size zeroD 45] W := hI
      clear hS
      go_upto_region 14 with fail
      rw [zero32]
      have H7 := hI.allocAt (W.heap.size) zeroD 45 rfl
      have hK7 : (W.alloc (.cells zeroD.toArray 45)).heap[D]? = some (.deferred (some [])) := by
        have := (Array.getElem?_eq_some_iff.1 hK).1
        exact (((Below.refl W.heap.size W).alloc (Nat.le_refl _) _).block D this).trans hK
      generalize W.alloc (.cells zeroD.toArray 45) = w7 at *
      generalize W.heap.size = nd at *
      have H8 := (H7.focus 1 rfl)
      have x0 := H8.cell 0 rfl 0 rfl; have x1 := H8.cell 0 rfl 1 rfl; have x2 := H8.cell 0 rfl 2 rfl; have x3 := H8.cell 0 rfl 3 rfl
      have x4 := H8.cell 0 rfl 4 rfl; have x5 := H8.cell 0 rfl 5 rfl; have x6 := H8.cell 0 rfl 6 rfl; have x7 := H8.cell 0 rfl 7 rfl
      go_wp2_with fail
      have hz : zeroD = dig q.list 0 := (dig_zero q.list).symm
      have H9 : Sep w NoF [.box nd (dig q.list 0) 45, .box w.heap.size zeroD 45] w7 := by
        have h9 := (((((H7.drop 1).drop 1).drop 1).drop 1))
        rw [← hz]; exact h9
      have hnd : ¬ D = nd := fun e => by have := H9.box 0 rfl; subst e; have h2 : w7.heap[D]? = some _ := this; rw [hK7] at h2; cases h2
      have hix := fun (k : Nat) (hk : k < 8) (wq : World) => (show (Instr.index 143 (.agg #[.int .u32 ((wN (q.a) : Nat) : Int), .int .u32 ((wN (q.b) : Nat) : Int), .int .u32 ((wN (q.c) : Nat) : Int), .int .u32 ((wN (q.d) : Nat) : Int), .int .u32 ((wN (q.e) : Nat) : Int), .int .u32 ((wN (q.f) : Nat) : Int), .int .u32 ((wN (q.g) : Nat) : Int), .int .u32 ((wN (q.h) : Nat) : Int)]) (.int .i64 (k : Int))).run Tryz.prog wq = .ok (.int .u32 ((wN (q.list.getD k 0) : Nat) : Int)) wq from index_arr8 q.list (len8 q) hk wq)
      have HIX := Lib.hid' hix
      clear hix hz H7 H8 hI hK x0 x1 x2 x3 x4 x5 x6 x7
      go_loopw [37] (fun v37 wr => ∃ k : Nat, v37 = .int .i64 k ∧ k ≤ 8 ∧ Sep w NoF [.box nd (dig q.list k) 45, .box w.heap.size zeroD 45] wr ∧ wr.heap[D]? = some (.deferred (some []))) (fun v37 _ => 8 - (intOf v37).toNat)
      case atStart => exact ⟨0, rfl, Nat.zero_le _, H9, hK7⟩
      case round =>
        clear H9 hK7
        obtain ⟨k, rfl, hk, H9, hK7⟩ := hrel
        by_cases hlt : k < 8
        · have hix := HIX.out k hlt wr
          have hl8 := len8 q
          have HDS := Lib.hid' (dig_step q.list (k := k) (by rw [hl8]; exact hlt) hl8)
          have HDL := Lib.hid' (dig_len q.list (k := k) (by rw [hl8]; omega) hl8)
          generalize q.list.getD k 0 = y at *
          clear hl8
          go_upto_region 17 with fail
          clear hix
          obtain ⟨CS, hCS⟩ : ∃ CS : List Value, CS = [.int .u8 (((wN y : Nat) : Int) / 16777216 % 256), .int .u8 (((wN y : Nat) : Int) / 65536 % 256), .int .u8 (((wN y : Nat) : Int) / 256 % 256), .int .u8 (((wN y : Nat) : Int) % 256)] := ⟨_, rfl⟩
          have HCS := Lib.hid' hCS
          have HCB := Lib.hid' (show byteVs (four8 y) = CS by
            rw [hCS]
            simp only [four8, byteVs, List.map_cons, List.map_nil, byteV_mod]
            simp [wN])
          have HCL := Lib.hid' (show CS.length = 4 by rw [hCS]; rfl)
          have H10 := H9.allocX (.cells CS.toArray 5)
          have HSR := Lib.hid' (show ∀ j v, CS[j]? = some v → (wr.alloc (.cells CS.toArray 5)).cell? ((⟨wr.heap.size, 0, none⟩ : Addr).add j) = some v from fun j v hj => by
            rw [add_lit, Nat.zero_add]
            exact (cell_of_row _ _ _ _ _ _ (BoxW.start wr CS 5)).trans (by simpa using hj))
          have H11 := H10.setRow 0 rfl (dig q.list (k + 1))
          have HRW := Lib.hid' (show (dig q.list k).toArray.toList.take (4 * k) ++ (CS ++ (dig q.list k).toArray.toList.drop (4 * k + CS.length)) = dig q.list (k + 1) by rw [← HDS.out, HCB.out, HCL.out])
          have hK11 : ((wr.alloc (.cells CS.toArray 5)).setRow nd (dig q.list (k + 1)).toArray).heap[D]? = some (.deferred (some [])) := by
            rw [setRow_other _ _ _ _ hnd]
            exact (((Below.refl wr.heap.size wr).alloc (Nat.le_refl _) _).block D (Array.getElem?_eq_some_iff.1 hK7).1).trans hK7
          clear hCS
          have e0 : (0 : Int) ≤ 4 * (k : Int) := by omega
          have e1 : 4 * (k : Int) ≤ 32 := by omega
          have e2 : ¬ 32 = (4 * (k : Int)).toNat := by omega
          have e3 : (4 * (k : Int)).toNat = 4 * k := by omega
          have e4 : ¬ 32 = 4 * k := by omega
          have HCP := run_copy_row (P := Tryz.prog) (wr.alloc (.cells CS.toArray 5)) 85 85 3 5 nd (4 * k) (32 - 4 * k) (32 - 4 * k) ⟨wr.heap.size, 0, none⟩ 4 4 (dig q.list k).toArray 45 CS Tryz.underlying85 (by kernel_rfl) (H10.box 0 rfl) (by rw [HCL.out]; exact (Nat.min_eq_left (by omega)).symm) HSR.out (by rw [List.size_toArray, HDL.out, HCL.out]; omega) (by rw [HCS.out]; simp [Value.oneCell'])
          rw [List.append_assoc, HRW.out, HCL.out, HCS.out] at HCP
          rw [HCS.out] at H11 hK11
          clear HRW HSR HCL HCB H10 H9 hK7
          go_upto_region 18 with fail
          clear HCP
          generalize ((wr.alloc (.cells [.int .u8 (((wN y : Nat) : Int) / 16777216 % 256), .int .u8 (((wN y : Nat) : Int) / 65536 % 256), .int .u8 (((wN y : Nat) : Int) / 256 % 256), .int .u8 (((wN y : Nat) : Int) % 256)].toArray 5)).setRow nd (dig q.list (k + 1)).toArray) = w9 at *
          go_wp2_with fail
          go_roundw
          case rel => exact ⟨k + 1, by go_num, by omega, H11, hK11⟩
          case measure => simp [intOf]; omega
        · obtain rfl : k = 8 := by omega
          have HF8 := Lib.hid' (dig_all q)
          rw [HF8.out] at H9
          have hl32 : (byteVs q.bytes).length = 32 := by rw [byteVs_length']; rfl
          have hz : (Tryz.prog.info? 45).map (·.size) = some (byteVs q.bytes).length := by rw [hl32]; kernel_rfl
          have hz2 : zeroD.length = (byteVs q.bytes).length := by rw [hl32]; rfl
          have h1 : (byteVs q.bytes).all (·.oneCell') = true := List.all_eq_true.2 (byteVs_one _)
          have H10 := H9.setRow 1 rfl (byteVs q.bytes)
          have hDw : ¬ D = w.heap.size := fun e => by have h2 : wr.heap[w.heap.size]? = some _ := H9.box 1 rfl; rw [← e, hK7] at h2; cases h2
          have hKe : (wr.setRow w.heap.size (byteVs q.bytes).toArray).heap[D]? = some (.deferred (some [])) := by rw [setRow_other _ _ _ _ hDw]; exact hK7
          obtain ⟨X, hX⟩ : ∃ X, X = byteVs q.bytes := ⟨_, rfl⟩
          rw [← hX] at H9 hz hz2 h1 H10 hKe
          have HXX := Lib.hid' hX
          have HXR := Lib.hid' (show BoxW w.heap.size X 45 ((wr.setRow w.heap.size X.toArray).putObj D (.deferred none)) from (World.putObj_heap_other (fun e => hDw (by first | exact e | exact e.symm))).trans (H10.box 0 rfl))
          have HBE := Lib.hid' (H10.toBelow.trans (belowK_b (n₀ := w.heap.size) (w := w) (Nat.le_refl _) _ D _ (.deferred none) (Nat.le_trans hsz hD) hKe rfl rfl))
          clear hX hl32 HF8
          go_upto_region 19 with fail
          go_wp2_with (first | (refine Sep.loadB H9 0 rfl rfl 45 (.tmp 9) rfl rfl _ Tryz.underlying45 rfl hz ?_) | (refine Sep.storeB H9 1 rfl rfl 45 (.tmp 2) (.tmp 58) rfl X rfl rfl hz hz2 h1 ?_))
          refine ⟨by simp, .inl ⟨_, _, rfl, run_takeDeferred hKe, ?_⟩⟩
          exact ⟨_, box_result Tryz.results73 HXR.out _ rfl _ Tryz.underlying45 rfl hz, by rw [HXX.out, HSB.out], HBE.out⟩
    case hstop =>
      intro D c pre W _ _ h _
      exact h.elim
end Go.Proofs.YtinbcehlpfnlaaaGreatDoor
