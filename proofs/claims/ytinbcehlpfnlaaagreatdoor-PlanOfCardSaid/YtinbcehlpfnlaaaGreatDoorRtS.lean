/- Layer 3, the document's: the digest. -/
import Derived.Test.YtinbcehlpfnlaaaGreatDoorRtT
import Derived.Test.YtinbcehlpfnlaaaGreatDoorShaG
import Derived.Test.YtinbcehlpfnlaaaGreatDoorStpL
import Derived.Deep.DeepCutAuto
import Derived.Deep.CutBlock
import Derived.Deep.RegionLawGrows
import Derived.Laws.OwnMore
namespace Go.Proofs.YtinbcehlpfnlaaaGreatDoor
open Go.RowKit
set_option linter.unusedSimpArgs false
set_option linter.unusedVariables false
set_option maxRecDepth 100000

theorem turn_any (x : W32) (k : Nat) (h1 : 0 < k) (h2 : k < 32) (w : World) : Calls Tryz.prog 61 #[wV x, .int .i64 (k : Int)] w fun e w' => e = .returned (wV (rotr x k)) ∧ w' = w := by
  obtain ⟨m, hm⟩ : ∃ m, m = 32 - k := ⟨_, rfl⟩
  have e0 : IntKind.u64.wrap (k : Int) = (k : Int) := by rw [IntKind.wrap_u64]; omega
  have e1 : IntKind.i64.wrap (32 - (k : Int)) = (m : Int) := by rw [show 32 - (k : Int) = (m : Int) by omega]; exact IntWalk.i64_in _ (by omega)
  have e2 : IntKind.u64.wrap (m : Int) = (m : Int) := by rw [IntKind.wrap_u64]; omega
  have e3 : IntKind.u64.wrap (32 - (k : Int)) = (m : Int) := by rw [IntKind.wrap_u64]; omega
  have e4 : 32 - (k : Int) = (m : Int) := by omega
  have e5 : ((m : Int)).toNat = m := by omega
  have e6 : ((k : Int)).toNat = k := by omega
  have g1 : (m : Int) ≤ 64 := by omega
  have g2 : (k : Int) ≤ 64 := by omega
  have HR := Lib.hid' (show rotr x k = x >>> k ||| x <<< m by unfold rotr; rw [hm])
  clear hm h1 h2
  unfold wV
  go_enter Tryz.func61, Tryz.ntmps61
  go_wp2
  go_ret
  refine ⟨ret_eq (show Value.int .u32 (bits .or .u32 (((wN x : Nat) : Int) / 2 ^ k) (((wN x : Nat) : Int) * 2 ^ m % 4294967296)) = _ from ?_), rfl⟩
  rw [w_shl2, w_shr, w_or, HR.out]
theorem grown_below {w w' : World} (h : w.grownBy w' none) : Below w.heap.size w w' := ⟨h.os, h.tape, h.output, h.size, fun k hk => h.block k hk (fun e => by cases e)⟩
/-- an append to a row of the call's own: what the old row's block held is there yet -/
theorem Sep.appendKeep {P : Program} {t e size bytes : Nat} (T : ElemT P t e size bytes) {w0 w : World} {F : Nat → Prop} {L : List Asn} {ops : Array Oper} {o : Oper} {a : Act} {K : Act → World → Prop} {Q : Exit → Act → World → Prop} {Zq : Prop} (hgd : o.guard = none) (s x : Operand)
    (ho : o.op = .call { callee := .builtin .append, args := #[s, x], argTypes := #[t, t] })
    (H : Sep w0 F L w) (i : Nat) {g n c : Nat} {xs : List Value} (hi : L[i]? = some (.row e size (.slice (some ⟨g, 0, none⟩) n c) n xs)) (hs : a.eval s = .slice (some ⟨g, 0, none⟩) n c)
    (N : Nat) (cs : List Value) (hx : a.eval x = .slice (some ⟨N, 0, none⟩) 1 1) (hc : ∀ j u, cs[j]? = some u → w.cell? ((⟨N, 0, none⟩ : Addr).add j) = some u)
    (hl : cs.length = size) (h1 : ∀ u ∈ cs, u.oneCell' = true) (hbytes : (n + 1) * bytes ≤ 140737488355328)
    (h : ∀ a' c' w', Sep w0 F (.row e size (.slice a' (n + 1) c') (n + 1) (xs ++ cs) :: L.eraseIdx i) w' → (∀ j u, xs[j]? = some u → w'.cell? ((⟨g, 0, none⟩ : Addr).add j) = some u) → K (a.put o.dst (.slice a' (n + 1) c')) w') :
    if Region.wanted o (yielded ops a.tmps) = true then Oper.wp P o a w K Q else Zq := by
  obtain ⟨ii, z, a1, a2, a3, a4, a5⟩ := T.info
  have hown := H.row i hi
  have hml : n + 1 ≤ maxLen := by
    have : (n + 1) * 1 ≤ (n + 1) * bytes := Nat.mul_le_mul_left _ T.posb
    unfold maxLen; omega
  have hw : Region.wanted o (yielded ops a.tmps) = true := by simp [Region.wanted, hgd]
  have hcell : ∀ j u, xs[j]? = some u → w.cell? ((⟨g, 0, none⟩ : Addr).add j) = some u := hown.cells (g := g) rfl
  by_cases hroom : n + 1 ≤ c
  · obtain ⟨w', hr, h2, h3⟩ := run_append_fits (P := P) (w := w) 0 t o.type e ii size T.under a1 a3 g n c xs hown ⟨N, 0, none⟩ 1 1 cs (by omega) hc h1 hroom
    rw [if_pos hw]
    unfold Oper.wp execOp
    simp only [ho, resolve, invoke, builtin, Sem.run_bind, Sem.run_pure, Result.andThen_ok, List.map_toArray, List.map_cons, List.map_nil, hs, hx, hr]
    have hfr : Fr (fun k => some g = some k) w w' := ⟨h3.os, h3.tape, h3.output, h3.size, fun k hk hn => h3.block k hk (fun e => hn e.symm)⟩
    refine h (some ⟨g, 0, none⟩) c w' ((H.focus i hi).fr1 hfr h2 (fun b hb => .inr hb)) (fun j u hu => ?_)
    have := h2.cells (g := g) rfl
    exact this j u (by rw [List.getElem?_append_left (List.getElem?_eq_some_iff.1 hu).1]; exact hu)
  · refine step_append_grows hgd s x t ho e ii z size bytes T.under a1 a2 a3 a4 a5 T.pos (some ⟨g, 0, none⟩) n c xs hs (fun e => by cases e) hown.1 (fun b hb => by cases hb; exact hcell) ⟨N, 0, none⟩ 1 1 cs hx (by omega) hc h1 (by omega) hml hbytes ?_
    intro v' w' ho' hg'
    obtain ⟨a', c', rfl⟩ := own_shape ho'
    have hb := grown_below hg'
    have hS := H.belowRow hb ho'
    refine h a' c' w' (hS.drop (i + 1)) (fun j u hu => ?_)
    have hcj := hcell j u hu
    exact (hb.cell (cell_lt hcj)).trans hcj
theorem ch_eq (e f g : W32) : (e &&& f) ^^^ (~~~e &&& g) = g ^^^ (e &&& (f ^^^ g)) := by
  apply BitVec.eq_of_getLsbD_eq
  intro i hi
  simp only [BitVec.getLsbD_xor, BitVec.getLsbD_and, BitVec.getLsbD_not, hi, decide_true, Bool.true_and]
  cases e.getLsbD i <;> cases f.getLsbD i <;> cases g.getLsbD i <;> rfl
theorem maj_eq (a b c : W32) : (a &&& b) ^^^ (a &&& c) ^^^ (b &&& c) = (a &&& b) ||| (c &&& (a ||| b)) := by
  apply BitVec.eq_of_getLsbD_eq
  intro i hi
  simp only [BitVec.getLsbD_xor, BitVec.getLsbD_and, BitVec.getLsbD_or]
  cases a.getLsbD i <;> cases b.getLsbD i <;> cases c.getLsbD i <;> rfl
theorem w_not4 (x : W32) : bits .xor .u32 4294967295 ((wN x : Nat) : Int) = ((wN (~~~x) : Nat) : Int) := by
  have h := w_xor (BitVec.allOnes 32) x
  have e : BitVec.allOnes 32 ^^^ x = ~~~x := BitVec.not_def.symm
  rw [e] at h
  exact h
/-- the digest's bytes, the first i of them laid -/
def outC (q : H8) (i : Nat) : List Value := byteVs (q.bytes.take i) ++ List.replicate (32 - i) (.int .u8 0)
theorem outC_all (q : H8) : outC q 32 = byteVs q.bytes := by unfold outC; rw [List.take_of_length_le (by rw [bytes_len8]; decide)]; simp
theorem outC_get (q : H8) {i : Nat} (h : i < 32) : (outC q i)[i]? = some (.int .u8 0) := by
  unfold outC
  have hl : (byteVs (q.bytes.take i)).length = i := by rw [byteVs_length, List.length_take, bytes_len8]; omega
  obtain ⟨n, hn⟩ : ∃ n, 32 - i = n + 1 := ⟨31 - i, by omega⟩
  rw [List.getElem?_append_right (by omega), hl, Nat.sub_self, hn, List.replicate_succ]
  rfl
theorem outC_set (q : H8) {i : Nat} (h : i < 32) : (outC q i).set i (byteV (q.bytes.getD i 0)) = outC q (i + 1) := by
  unfold outC
  have hb : i < q.bytes.length := by rw [bytes_len8]; exact h
  have hl : (byteVs (q.bytes.take i)).length = i := by rw [byteVs_length, List.length_take, bytes_len8]; omega
  obtain ⟨n, hn⟩ : ∃ n, 32 - i = n + 1 := ⟨31 - i, by omega⟩
  rw [List.set_append_right _ _ (by omega), hl, Nat.sub_self, hn, List.replicate_succ, List.set_cons_zero, List.take_succ_eq_append_getElem hb, byteVs_append, show 32 - (i + 1) = n by omega, List.append_assoc]
  simp [byteVs, List.getD, hb]
theorem out_at (q : H8) : ∀ (i : Nat), i < 32 → q.bytes.getD i 0 = UInt8.ofNat ((q.list.getD (i / 4) 0).toNat / 2 ^ (24 - 8 * (i % 4)))
  | 0, _ => rfl
  | 1, _ => rfl
  | 2, _ => rfl
  | 3, _ => by show UInt8.ofNat (BitVec.toNat _) = UInt8.ofNat (BitVec.toNat _ / 1); rw [Nat.div_one]; rfl
  | 4, _ => rfl
  | 5, _ => rfl
  | 6, _ => rfl
  | 7, _ => by show UInt8.ofNat (BitVec.toNat _) = UInt8.ofNat (BitVec.toNat _ / 1); rw [Nat.div_one]; rfl
  | 8, _ => rfl
  | 9, _ => rfl
  | 10, _ => rfl
  | 11, _ => by show UInt8.ofNat (BitVec.toNat _) = UInt8.ofNat (BitVec.toNat _ / 1); rw [Nat.div_one]; rfl
  | 12, _ => rfl
  | 13, _ => rfl
  | 14, _ => rfl
  | 15, _ => by show UInt8.ofNat (BitVec.toNat _) = UInt8.ofNat (BitVec.toNat _ / 1); rw [Nat.div_one]; rfl
  | 16, _ => rfl
  | 17, _ => rfl
  | 18, _ => rfl
  | 19, _ => by show UInt8.ofNat (BitVec.toNat _) = UInt8.ofNat (BitVec.toNat _ / 1); rw [Nat.div_one]; rfl
  | 20, _ => rfl
  | 21, _ => rfl
  | 22, _ => rfl
  | 23, _ => by show UInt8.ofNat (BitVec.toNat _) = UInt8.ofNat (BitVec.toNat _ / 1); rw [Nat.div_one]; rfl
  | 24, _ => rfl
  | 25, _ => rfl
  | 26, _ => rfl
  | 27, _ => by show UInt8.ofNat (BitVec.toNat _) = UInt8.ofNat (BitVec.toNat _ / 1); rw [Nat.div_one]; rfl
  | 28, _ => rfl
  | 29, _ => rfl
  | 30, _ => rfl
  | 31, _ => by show UInt8.ofNat (BitVec.toNat _) = UInt8.ofNat (BitVec.toNat _ / 1); rw [Nat.div_one]; rfl
  | n + 32, h => absurd h (by omega)
theorem out_byte (q : H8) {i : Nat} (h : i < 32) : (.int .u8 (((wN (q.list.getD (i / 4) 0) : Nat) : Int) / 2 ^ (24 - 8 * (i % 4)) % 256) : Value) = byteV (q.bytes.getD i 0) := by
  rw [out_at q i h]
  unfold wN
  generalize (q.list.getD (i / 4) 0).toNat = n
  generalize 24 - 8 * (i % 4) = s
  rw [byteV_mod]
  simp
theorem add0 (g j : Nat) : (Addr.add ⟨g, 0, none⟩ j) = ⟨g, j, none⟩ := by unfold Addr.add; split <;> simp_all
theorem vals_at {w : World} {g c : Nat} {q : H8} (h : w.ownsRow 0 111 1 (.slice (some ⟨g, 0, none⟩) 8 c) 8 q.vals) :
    w.cell? ⟨g, 0, none⟩ = some (.int .u32 ((wN q.a : Nat) : Int)) ∧ w.cell? ⟨g, 1, none⟩ = some (.int .u32 ((wN q.b : Nat) : Int)) ∧ w.cell? ⟨g, 2, none⟩ = some (.int .u32 ((wN q.c : Nat) : Int)) ∧ w.cell? ⟨g, 3, none⟩ = some (.int .u32 ((wN q.d : Nat) : Int)) ∧ w.cell? ⟨g, 4, none⟩ = some (.int .u32 ((wN q.e : Nat) : Int)) ∧ w.cell? ⟨g, 5, none⟩ = some (.int .u32 ((wN q.f : Nat) : Int)) ∧ w.cell? ⟨g, 6, none⟩ = some (.int .u32 ((wN q.g : Nat) : Int)) ∧ w.cell? ⟨g, 7, none⟩ = some (.int .u32 ((wN q.h : Nat) : Int)) := by
  have hc := h.cells (g := g) rfl
  refine ⟨?_, ?_, ?_, ?_, ?_, ?_, ?_, ?_⟩
  · have := hc 0 _ rfl; rwa [add0] at this
  · have := hc 1 _ rfl; rwa [add0] at this
  · have := hc 2 _ rfl; rwa [add0] at this
  · have := hc 3 _ rfl; rwa [add0] at this
  · have := hc 4 _ rfl; rwa [add0] at this
  · have := hc 5 _ rfl; rwa [add0] at this
  · have := hc 6 _ rfl; rwa [add0] at this
  · have := hc 7 _ rfl; rwa [add0] at this
theorem own_addr0 {w : World} {base e size n c : Nat} {a : Option Addr} {xs : List Value} (h : w.ownsRow base e size (.slice a n c) n xs) (hn : 0 < n) : ∃ g, a = some ⟨g, 0, none⟩ := by
  rcases h.2 with ⟨hv, _⟩ | ⟨g, cap, cur, hv, _⟩
  · simp only [Value.slice.injEq] at hv; omega
  · simp only [Value.slice.injEq] at hv; exact ⟨g, hv.1⟩
theorem keep_at {w : World} {g : Nat} {X : List W32} (h : ∀ j u, (X.map wV)[j]? = some u → w.cell? ((⟨g, 0, none⟩ : Addr).add j) = some u) {j : Nat} (hj : j < X.length) : w.cell? ⟨g, j, none⟩ = some (.int .u32 ((wN (X.getD j 0) : Nat) : Int)) := by
  have := h j (wV (X.getD j 0)) (by simp [List.getD, hj])
  rwa [add0] at this
theorem alloc_one_cell (w : World) (v : Value) (e : Nat) : ∀ j u, [v][j]? = some u → ((w.alloc (.cells [v].toArray e)).drew).cell? ((⟨w.heap.size, 0, none⟩ : Addr).add j) = some u := by
  intro j u hu
  obtain ⟨_, _, he, _, _, _, h3⟩ := SlV.new w [v] 1 e (by decide)
  cases he
  obtain ⟨p, hp, hc⟩ := h3 j u hu
  cases hp
  exact hc
theorem wVs_one (X : List W32) : ∀ u ∈ X.map wV, u.oneCell' = true := by intro u hu; obtain ⟨b, _, rfl⟩ := List.mem_map.1 hu; rfl
theorem byte_at {w : World} {bb off c n : Nat} {b : List UInt8} (h : SlV w (.slice (some ⟨bb, off, none⟩) n c) n (byteVs b)) (hl : b.length = n) {j : Nat} (hj : j < n) : w.cell? ⟨bb, off + j, none⟩ = some (.int .u8 (((b.getD j 0).toNat : Nat) : Int)) := by
  obtain ⟨bb', off', he, hb, hc⟩ := SlV.addr h (by intro e; have h2 := congrArg List.length e; rw [byteVs_length] at h2; have h3 : b.length = 0 := h2; omega)
  cases he
  have := hc j (byteV (b.getD j 0)) (by simp [byteVs, List.getD, show j < b.length by omega])
  simpa [byteV] using this
theorem word_at {w : World} {bb off c n : Nat} {X : List W32} (h : SlV w (.slice (some ⟨bb, off, none⟩) n c) n (X.map wV)) (hl : X.length = n) {j : Nat} (hj : j < n) : w.cell? ⟨bb, off + j, none⟩ = some (.int .u32 ((wN (X.getD j 0) : Nat) : Int)) := by
  obtain ⟨bb', off', he, hb, hc⟩ := SlV.addr h (by intro e; have h2 := congrArg List.length e; rw [List.length_map] at h2; have h3 : X.length = 0 := h2; omega)
  cases he
  exact hc j (wV (X.getD j 0)) (by simp [List.getD, show j < X.length by omega])
theorem blk_get (B : List UInt8) (o j : Nat) (hj : j < 64) : ((B.drop o).take 64).getD j 0 = B.getD (o + j) 0 := by
  simp [List.getD, List.getElem?_take, hj]
theorem word4_n (a b c d : UInt8) : wN (word4 a b c d) = a.toNat * 16777216 + b.toNat * 65536 + c.toNat * 256 + d.toNat := by
  have h1 : a.toNat < 256 := a.toNat_lt
  have h2 : b.toNat < 256 := b.toNat_lt
  have h3 : c.toNat < 256 := c.toNat_lt
  have h4 : d.toNat < 256 := d.toNat_lt
  unfold wN word4
  rw [BitVec.toNat_ofNat, Nat.mod_eq_of_lt (by omega)]
def prePad (t : List UInt8) (j : Nat) : List UInt8 := t ++ [128] ++ List.replicate j 0
theorem padB_eq (n : Nat) : padB n = [128] ++ List.replicate (padZ n) 0 ++ be8 (n * 8) := rfl
set_option maxHeartbeats 16000000 in
theorem rsum_any (t : List UInt8) (ta : Option Addr) (tc : Nat) (ka : Option Addr) (kc : Nat) (fa : Option Addr) (fc : Nat) (w : World) (hT : Bytes w (.slice ta t.length tc) t) (hl : t.length ≤ 1073741824)
    (hK : SlV w (.slice ka 64 kc) 64 (shaK.map wV)) (hF : SlV w (.slice fa 8 fc) 8 (shaH.list.map wV)) :
    Calls Tryz.prog 42 #[.slice ta t.length tc, .slice ka 64 kc, .slice fa 8 fc] w fun e w' => e = .returned (.agg (byteVs (shaB t)).toArray) ∧ Below w.heap.size w w' := by
  have HT := Lib.hid' hT
  have HK := Lib.hid' hK
  have HF := Lib.hid' hF
  have HNB := Lib.hid' (show shaB t = (blocks (t ++ padB t.length) ((t ++ padB t.length).length / 64) shaH).bytes from rfl)
  have hbl : (byteVs t).length = t.length := byteVs_length t
  have HBL := Lib.hid' hbl
  obtain ⟨n, hn⟩ : ∃ n, n = t.length := ⟨_, rfl⟩
  have HN := Lib.hid' hn
  rw [← hn] at HT HBL HNB hl ⊢
  clear hT hK hF hbl hn
  go_enter Tryz.func42, Tryz.ntmps42
  go_upto_region 1 with fail
  rw [zero32]
  have H0 : Sep w NoF [.row 5 1 (.slice (some ⟨w.heap.size + 1, 0, none⟩) 0 0) 0 [], .box w.heap.size zeroD 64] ((w.alloc (.cells zeroD.toArray 64)).alloc (.cells #[] 5)) := ((Sep.start w).allocAt w.heap.size zeroD 64 rfl).newRowAt (w.heap.size + 1) 5 1 (by simp)
  have hT1 := Lib.hid' (show SlV ((w.alloc (.cells zeroD.toArray 64)).alloc (.cells #[] 5)) (.slice ta n tc) n (byteVs t) from by have := HT.out; unfold Bytes at this; rw [← HN.out] at this; exact H0.old0 this)
  have hT2 := HT.out
  go_upto_region 2 with (at_builtin; refine Sep.appendSl etBytes rfl (.tmp 30) (.tmp 31) rfl H0 0 rfl rfl n (byteVs t) _ rfl hT1.out (by rw [HBL.out]; omega) (byteVs_one t) (by omega) ?_; intro a1 c1 w1 H1)
  have H2 : Sep w NoF [.row 5 1 (.slice a1 n c1) n (byteVs t), .box w.heap.size zeroD 64] w1 := by have := H1; rw [Nat.zero_add, List.nil_append] at this; exact this
  clear H0 H1 hT1 hT2
  go_upto_region 3 with (at_builtin; refine Sep.append etBytes rfl (.tmp 33) (.tmp 34) rfl [.int .u8 128] rfl H2 0 rfl rfl rfl (by simp [Value.oneCell']) (by omega) ?_; intro a2 c2 w2 H3)
  have H4 : Sep w NoF [.row 5 1 (.slice a2 (n + 1 + 0) c2) (n + 1 + 0) (byteVs (prePad t 0)), .box w.heap.size zeroD 64] w2 := by unfold prePad; rw [List.replicate_zero, List.append_nil, byteVs_append]; exact H3
  have hpz : padZ n < 64 := by unfold padZ; omega
  have HPZ := Lib.hid' (fun j (hj : j ≤ padZ n) => show (n + 1 + j) % 64 = 56 ↔ j = padZ n by unfold padZ at *; omega)
  have HPB := Lib.hid' (padB_eq n)
  have HMD := Lib.hid' (show (n + 1 + padZ n + 8) % 64 = 0 by unfold padZ; omega)
  generalize padZ n = pz at *
  clear H2 H3
  go_wp2_with fail
  go_loopw [7] (fun v7 wr => ∃ (j : Nat) (a : Option Addr) (c : Nat), v7 = .slice a (n + 1 + j) c ∧ j ≤ pz ∧ Sep w NoF [.row 5 1 (.slice a (n + 1 + j) c) (n + 1 + j) (byteVs (prePad t j)), .box w.heap.size zeroD 64] wr) (fun v7 _ => n + pz + 2 - slLen v7)
  case atStart => exact ⟨0, _, _, rfl, Nat.zero_le _, H4⟩
  case round =>
    clear H4
    obtain ⟨j, a, c, rfl, hj, H0⟩ := hrel
    have hz := HPZ.out j hj
    by_cases hjz : j = pz
    rotate_left
    · as_aux_lemma =>
      have h0 : (((n : Int) + 1 + (j : Int)) % 64 != 56) = true := by rw [bne_iff_ne]; have := mt hz.1 hjz; omega
      have HRJ := Lib.hid' (show byteVs (prePad t (j + 1)) = byteVs (prePad t j) ++ [.int .u8 0] by unfold prePad; rw [List.replicate_succ', ← List.append_assoc, byteVs_append]; rfl)
      go_wp2_with (at_builtin; refine Sep.append etBytes rfl (.tmp 40) (.tmp 41) rfl [.int .u8 0] rfl H0 0 rfl rfl rfl (by simp [Value.oneCell']) (by omega) ?_)
      intro a2 c2 w2 HA
      have HA2 : Sep w NoF [.row 5 1 (.slice a2 (n + 1 + (j + 1)) c2) (n + 1 + (j + 1)) (byteVs (prePad t (j + 1))), .box w.heap.size zeroD 64] w2 := by rw [HRJ.out, show n + 1 + (j + 1) = n + 1 + j + 1 by omega]; exact HA
      clear HRJ H0 HA
      go_wp2_with fail
      go_roundw
      case rel => exact ⟨j + 1, a2, c2, by rw [show n + 1 + j + 1 = n + 1 + (j + 1) by omega], by omega, HA2⟩
      case measure => simp [slLen]; omega
    have h0 : (((n : Int) + 1 + (j : Int)) % 64 != 56) = false := by rw [bne_eq_false_iff_eq]; have := hz.2 hjz; omega
    subst hjz
    clear HPZ hz hj
    obtain ⟨tt, htt⟩ : ∃ tt : List UInt8, tt = prePad t j := ⟨_, rfl⟩
    have HTT := Lib.hid' htt
    have hB0 : (be8 (n * 8)).take 0 = [] := rfl
    replace H0 : Sep w NoF [.row 5 1 (.slice a (n + 1 + j + 0) c) (n + 1 + j + 0) (byteVs (tt ++ (be8 (n * 8)).take 0)), .box w.heap.size zeroD 64] wr := by rw [hB0, List.append_nil, htt]; exact H0
    clear htt hB0
    have g3 : IntKind.u64.wrap (n : Int) = (n : Int) := by rw [IntKind.wrap_u64]; omega
    have g4 : IntKind.u64.wrap ((n : Int) * 8) = (n : Int) * 8 := by rw [IntKind.wrap_u64]; omega
    go_wp2_with fail
    go_loopw [9, 7] (fun v9 v7 wr => ∃ (i : Nat) (s : Int) (a : Option Addr) (c : Nat), v9 = .int .i64 s ∧ s = 7 - (i : Int) ∧ i ≤ 8 ∧ v7 = .slice a (n + 1 + j + i) c ∧ Sep w NoF [.row 5 1 (.slice a (n + 1 + j + i) c) (n + 1 + j + i) (byteVs (tt ++ (be8 (n * 8)).take i)), .box w.heap.size zeroD 64] wr) (fun v9 _ _ => (intOf v9 + 1).toNat)
    case atStart => exact ⟨0, 7, a, c, rfl, by omega, Nat.zero_le _, rfl, H0⟩
    case round =>
      clear H0
      obtain ⟨i, s, a, c, rfl, hs, hi, rfl, H0⟩ := hrel
      by_cases hlt : i < 8
      · as_aux_lemma =>
        obtain ⟨sv, hsv⟩ : ∃ sv : Nat, sv = 7 - i := ⟨_, rfl⟩
        obtain ⟨sh, hsh⟩ : ∃ sh : Nat, sh = 56 - 8 * i := ⟨_, rfl⟩
        obtain rfl : s = (sv : Int) := by omega
        have HBT := Lib.hid' (be8_take (n * 8) hlt)
        rw [← hsh] at HBT
        have k1 : 8 * (sv : Int) = (sh : Int) := by omega
        have k2 : IntKind.i64.wrap (8 * (sv : Int)) = (sh : Int) := by rw [k1]; exact IntWalk.i64_in _ (by omega)
        have k3 : IntKind.u64.wrap (sh : Int) = (sh : Int) := by rw [IntKind.wrap_u64]; omega
        have k4 : IntKind.u64.wrap (8 * (sv : Int)) = (sh : Int) := by rw [k1]; exact k3
        have g1 : (sh : Int) ≤ 64 := by omega
        have g2 : IntKind.i64.wrap ((sv : Int) - 1) = (sv : Int) - 1 := IntWalk.i64_in _ (by omega)
        have HV := Lib.hid' (byteV_mod (n * 8 / 2 ^ sh))
        have HSH := Lib.hid' hsv
        clear hsh hs hsv
        go_wp2_with (at_builtin; refine Sep.append etBytes rfl (.tmp 51) (.tmp 58) rfl [.int .u8 ((n : Int) * 8 / 2 ^ sh % 256)] rfl H0 0 rfl rfl rfl (by simp [Value.oneCell']) (by omega) ?_)
        intro a2 c2 w2 HA
        have HRJ := Lib.hid' (show byteVs (tt ++ (be8 (n * 8)).take (i + 1)) = byteVs (tt ++ (be8 (n * 8)).take i) ++ [.int .u8 ((n : Int) * 8 / 2 ^ sh % 256)] by
          rw [HBT.out, ← List.append_assoc, byteVs_append]
          show _ ++ [byteV _] = _
          rw [HV.out]
          simp)
        have HA2 : Sep w NoF [.row 5 1 (.slice a2 (n + 1 + j + (i + 1)) c2) (n + 1 + j + (i + 1)) (byteVs (tt ++ (be8 (n * 8)).take (i + 1))), .box w.heap.size zeroD 64] w2 := by rw [HRJ.out, show n + 1 + j + (i + 1) = n + 1 + j + i + 1 by omega]; exact HA
        clear HRJ H0 HA
        go_wp2_with fail
        go_roundw
        case rel => exact ⟨i + 1, (sv : Int) - 1, a2, c2, by first | rfl | go_num, by have := HSH.out; omega, by omega, by rw [show n + 1 + j + i + 1 = n + 1 + j + (i + 1) by omega], HA2⟩
        case measure => simp [intOf] <;> omega
      · obtain rfl : i = 8 := by omega
        have hsn : ¬ (0 : Int) ≤ s := by omega
        obtain ⟨B, hB⟩ : ∃ B, B = t ++ padB n := ⟨_, rfl⟩
        have hBB : tt ++ (be8 (n * 8)).take 8 = B := by rw [hB, HPB.out, HTT.out]; unfold prePad; simp [be8]
        rw [hBB] at H0
        have HNB2 := Lib.hid' (show shaB t = (blocks B (B.length / 64) shaH).bytes by rw [HNB.out, HN.out, hB, HN.out])
        have hBl : B.length = n + 1 + j + 8 := by
          have := (H0.row 0 rfl).1
          rw [byteVs_length] at this; omega
        obtain ⟨m, hm⟩ : ∃ m, n + 1 + j + 8 = 64 * m := ⟨(n + 1 + j + 8) / 64, by have := HMD.out; omega⟩
        rw [hm] at H0 hBl ⊢
        have HBL2 := Lib.hid' hBl
        have HNB3 := Lib.hid' (show shaB t = (blocks B m shaH).bytes by rw [HNB2.out, hBl, Nat.mul_div_cancel_left m (by decide)])
        have hm1 : 1 ≤ m := by omega
        have hm2 : m ≤ 16777218 := by omega
        clear hB hBB hBl hm HNB HNB2 HPB HTT HMD hlt hs hi
        obtain ⟨ba, boff, rfl, _, _⟩ := SlV.addr (SlV.of_own (H0.row 0 rfl)) (by intro e; have := congrArg List.length e; rw [byteVs_length, HBL2.out] at this; have h3 : 64 * m = 0 := this; omega)
        have HBY := Lib.hid' (fun (wq : World) (h : wq.ownsRow 0 5 1 (.slice (some ⟨ba, boff, none⟩) (64 * m) c) (64 * m) (byteVs B)) (i : Nat) (hi : i < 64 * m) => byte_at (SlV.of_own h) HBL2.out hi)
        obtain ⟨ko, kof, rfl, _, _⟩ := SlV.addr HK.out (by intro e; cases e)
        go_upto_region 10 with fail
        have HNR := H0.newRow 111 1
        have hF1 := HNR.old0 HF.out
        go_upto_region 11 with (at_builtin; refine Sep.appendSl etWs rfl (.tmp 60) (.tmp 61) rfl HNR 0 rfl rfl 8 (shaH.list.map wV) _ rfl hF1 rfl (wVs_one _) (by decide) ?_; intro a3 c3 w3 H3)
        have H4 : Sep w NoF [.row 111 1 (.slice a3 8 c3) 8 ((blocks B 0 shaH).vals), .row 5 1 (.slice (some ⟨ba, boff, none⟩) (64 * m) c) (64 * m) (byteVs B), .box w.heap.size zeroD 64] w3 := H3
        clear H3 HNR hF1 H0
        go_wp2_with fail
        go_loopw [11, 10] (fun v11 v10 wr => ∃ (k : Nat) (at' : Int) (sa : Option Addr) (sc : Nat), v11 = .int .i64 at' ∧ at' = 64 * (k : Int) ∧ k ≤ m ∧ v10 = .slice sa 8 sc ∧ Sep w NoF [.row 111 1 (.slice sa 8 sc) 8 ((blocks B k shaH).vals), .row 5 1 (.slice (some ⟨ba, boff, none⟩) (64 * m) c) (64 * m) (byteVs B), .box w.heap.size zeroD 64] wr) (fun v11 _ _ => (64 * (m : Int) - intOf v11).toNat)
        case atStart => exact ⟨0, 0, _, _, rfl, rfl, Nat.zero_le _, rfl, H4⟩
        case round =>
          clear H4
          obtain ⟨k, at', sa, sc, rfl, hat, hk, rfl, H0⟩ := hrel
          by_cases hkm : k < m
          rotate_left
          · obtain rfl : k = m := by omega
            have hnlt : ¬ at' < 64 * (k : Int) := by omega
            have HSB := Lib.hid' (show shaB t = (blocks B k shaH).bytes from HNB3.out)
            generalize blocks B k shaH = q at *
            obtain ⟨sg, rfl⟩ := own_addr0 (H0.row 0 rfl) (by decide)
            clear hat HBY HNB3
            go_upto_region 39 with fail
            have HZ : Sep w NoF [.box wr.heap.size zeroD 64, .row 111 1 (.slice (some ⟨sg, 0, none⟩) 8 sc) 8 q.vals, .row 5 1 (.slice (some ⟨ba, boff, none⟩) (64 * k) c) (64 * k) (byteVs B), .box w.heap.size zeroD 64] (wr.alloc (.cells #[.int .u8 0, .int .u8 0, .int .u8 0, .int .u8 0, .int .u8 0, .int .u8 0, .int .u8 0, .int .u8 0, .int .u8 0, .int .u8 0, .int .u8 0, .int .u8 0, .int .u8 0, .int .u8 0, .int .u8 0, .int .u8 0, .int .u8 0, .int .u8 0, .int .u8 0, .int .u8 0, .int .u8 0, .int .u8 0, .int .u8 0, .int .u8 0, .int .u8 0, .int .u8 0, .int .u8 0, .int .u8 0, .int .u8 0, .int .u8 0, .int .u8 0, .int .u8 0] 64)) := H0.allocAt wr.heap.size zeroD 64 rfl
            have hz32 : (Tryz.prog.info? 64).map (·.size) = some zeroD.length := by kernel_rfl
            go_upto_region 40 with (refine Sep.storeB HZ 0 rfl rfl 64 (.tmp 28) (.tmp 284) rfl zeroD rfl rfl hz32 rfl rfl ?_)
            have H1 := HZ.setRow 0 rfl zeroD
            generalize (wr.alloc (.cells #[.int .u8 0, .int .u8 0, .int .u8 0, .int .u8 0, .int .u8 0, .int .u8 0, .int .u8 0, .int .u8 0, .int .u8 0, .int .u8 0, .int .u8 0, .int .u8 0, .int .u8 0, .int .u8 0, .int .u8 0, .int .u8 0, .int .u8 0, .int .u8 0, .int .u8 0, .int .u8 0, .int .u8 0, .int .u8 0, .int .u8 0, .int .u8 0, .int .u8 0, .int .u8 0, .int .u8 0, .int .u8 0, .int .u8 0, .int .u8 0, .int .u8 0, .int .u8 0] 64)).setRow wr.heap.size zeroD.toArray = w5 at *
            generalize wr.heap.size = N28 at *
            have H2 : Sep w NoF [.box N28 (outC q 0) 64, .row 111 1 (.slice (some ⟨sg, 0, none⟩) 8 sc) 8 q.vals, .row 5 1 (.slice (some ⟨ba, boff, none⟩) (64 * k) c) (64 * k) (byteVs B), .box w.heap.size zeroD 64] w5 := H1
            clear H1 HZ H0
            go_wp2_with fail
            go_loopw [29] (fun v29 wr => ∃ (i : Nat), v29 = .int .i64 (i : Nat) ∧ i ≤ 32 ∧ Sep w NoF [.box N28 (outC q i) 64, .row 111 1 (.slice (some ⟨sg, 0, none⟩) 8 sc) 8 q.vals, .row 5 1 (.slice (some ⟨ba, boff, none⟩) (64 * k) c) (64 * k) (byteVs B), .box w.heap.size zeroD 64] wr) (fun v29 _ => 32 - (intOf v29).toNat)
            case atStart => exact ⟨0, rfl, by decide, H2⟩
            case round =>
              clear H2
              obtain ⟨i, rfl, hi, H0⟩ := hrel
              by_cases hlt : i < 32
              · as_aux_lemma =>
                have hlt' : (i : Int) < 32 := by omega
                obtain ⟨d, hd⟩ : ∃ d, d = i / 4 := ⟨_, rfl⟩
                obtain ⟨md, hmd⟩ : ∃ md, md = i % 4 := ⟨_, rfl⟩
                obtain ⟨sh, hsh⟩ : ∃ sh, sh = 24 - 8 * md := ⟨_, rfl⟩
                have k1 : (i : Int) / 4 = (d : Int) := by omega
                have k2 : (i : Int).tdiv 4 = (d : Int) := by rw [Int.tdiv_eq_ediv_of_nonneg (by omega)]; omega
                have k3 : (i : Int) % 4 = (md : Int) := by omega
                have k4 : (i : Int).tmod 4 = (md : Int) := by rw [Int.tmod_eq_emod_of_nonneg (by omega)]; omega
                have k5 : IntKind.i64.wrap (24 - 8 * (md : Int)) = (sh : Int) := by rw [show 24 - 8 * (md : Int) = (sh : Int) by omega]; exact IntWalk.i64_in _ (by omega)
                have k6 : 24 - 8 * (md : Int) = (sh : Int) := by omega
                have k7 : IntKind.u64.wrap (sh : Int) = (sh : Int) := by rw [IntKind.wrap_u64]; omega
                have k8 : (sh : Int) ≤ 64 := by omega
                have k9 : IntKind.u64.wrap (24 - 8 * (md : Int)) = (sh : Int) := by rw [k6]; exact k7
                have hd8 : d < 8 := by omega
                have hd8' : (d : Int) < 8 := by omega
                have hcq := keep_at (X := q.list) (show ∀ j u, (q.list.map wV)[j]? = some u → wr.cell? ((⟨sg, 0, none⟩ : Addr).add j) = some u from (H0.row 1 rfl).cells (g := sg) rfl) (show d < q.list.length from hd8)
                have HOB := Lib.hid' (out_byte q hlt)
                rw [← hd, ← hmd, ← hsh] at HOB
                generalize q.list.getD d 0 = x at *
                have hov := H0.cell 0 rfl i (outC_get q hlt)
                have hof := H0.free 0 rfl i
                have hN := H0.lt 0 rfl
                clear hd hmd hsh
                go_upto_region 42 with fail
                have H3 := H0.set 0 rfl i (.int .u8 (((wN x : Nat) : Int) / 2 ^ sh % 256))
                rw [show (outC q i).set i (.int .u8 (((wN x : Nat) : Int) / 2 ^ sh % 256)) = outC q (i + 1) from (by rw [HOB.out]; exact outC_set q hlt)] at H3
                have H4 : Sep w NoF [.box N28 (outC q (i + 1)) 64, .row 111 1 (.slice (some ⟨sg, 0, none⟩) 8 sc) 8 q.vals, .row 5 1 (.slice (some ⟨ba, boff, none⟩) (64 * k) c) (64 * k) (byteVs B), .box w.heap.size zeroD 64] (wr.setCell ⟨N28, i, none⟩ (.int .u8 (((wN x : Nat) : Int) / 2 ^ sh % 256))) := H3
                clear H3 H0 hcq hov hof
                go_wp2_with fail
                go_roundw
                case rel => exact ⟨i + 1, by go_num, by omega, H4⟩
                case measure => simp [intOf]; omega
              · obtain rfl : i = 32 := by omega
                rw [show ((32 : Nat) : Int) = 32 from rfl]
                have H3 : Sep w NoF [.box N28 (byteVs q.bytes) 64, .row 111 1 (.slice (some ⟨sg, 0, none⟩) 8 sc) 8 q.vals, .row 5 1 (.slice (some ⟨ba, boff, none⟩) (64 * k) c) (64 * k) (byteVs B), .box w.heap.size zeroD 64] wr := by rw [← outC_all q]; exact H0
                have hz : (Tryz.prog.info? 64).map (·.size) = some (byteVs q.bytes).length := by rw [byteVs_length, bytes_len8]; kernel_rfl
                have hz2 : zeroD.length = (byteVs q.bytes).length := by rw [byteVs_length, bytes_len8]; rfl
                have h1 : (byteVs q.bytes).all (·.oneCell') = true := List.all_eq_true.2 (byteVs_one _)
                obtain ⟨RV, hRV⟩ : ∃ RV, RV = byteVs q.bytes := ⟨_, rfl⟩
                have HRV := Lib.hid' hRV
                rw [← hRV] at H3 hz hz2 h1
                clear H0 hRV
                go_wp2_with (first | (refine Sep.loadB H3 0 rfl rfl 64 (.tmp 28) rfl rfl _ Tryz.underlying64 rfl hz ?_) | (refine Sep.storeB H3 3 rfl rfl 64 (.tmp 6) (.tmp 303) rfl RV rfl rfl hz hz2 h1 ?_))
                have H4 := H3.setRow 3 rfl RV
                refine bodyPost_ret (box_result Tryz.results42 (H4.box 0 rfl) _ rfl _ Tryz.underlying64 rfl hz) rfl ?_
                exact ⟨by rw [HRV.out, HSB.out], H4.toBelow⟩
          have hcd : at' < 64 * (m : Int) := by omega
          have HAT := Lib.hid' hat
          clear hat
          have HNX := Lib.hid' (show blocks B (k + 1) shaH = stepS (blocks B k shaH) ((B.drop (64 * k)).take 64) from rfl)
          have HGD := Lib.hid' (fun j (hj : j < 64) => show ((B.drop (64 * k)).take 64).getD j 0 = B.getD (64 * k + j) 0 from blk_get B (64 * k) j hj)
          generalize blocks B k shaH = q at *
          obtain ⟨bk, hbk⟩ : ∃ bk, bk = (B.drop (64 * k)).take 64 := ⟨_, rfl⟩
          rw [← hbk] at HNX HGD
          clear hbk
          have HST := Lib.hid' (show stepS q bk = (rounds (sched bk 64) 64 q).add q from rfl)
          go_upto_region 14 with fail
          have H1 : Sep w NoF [.row 111 1 (.slice (some ⟨wr.heap.size, 0, none⟩) 0 0) 0 ((sched bk 0).map wV), .row 111 1 (.slice sa 8 sc) 8 q.vals, .row 5 1 (.slice (some ⟨ba, boff, none⟩) (64 * m) c) (64 * m) (byteVs B), .box w.heap.size zeroD 64] (wr.alloc (.cells #[] 111)) := H0.newRow 111 1
          go_upto_region 15 with fail
          generalize wr.alloc (.cells #[] 111) = w5 at *
          generalize wr.heap.size = gw at *
          clear H0
          go_wp2_with fail
          go_loopw [13, 12] (fun v13 v12 wr => ∃ (i : Nat) (wa : Option Addr) (wc : Nat), v13 = .int .i64 (i : Nat) ∧ i ≤ 64 ∧ v12 = .slice wa i wc ∧ Sep w NoF [.row 111 1 (.slice wa i wc) i ((sched bk i).map wV), .row 111 1 (.slice sa 8 sc) 8 q.vals, .row 5 1 (.slice (some ⟨ba, boff, none⟩) (64 * m) c) (64 * m) (byteVs B), .box w.heap.size zeroD 64] wr) (fun v13 _ _ => 64 - (intOf v13).toNat)
          case atStart => exact ⟨0, _, 0, rfl, by decide, rfl, H1⟩
          case round =>
            clear H1
            obtain ⟨i, wa, wc, rfl, hi, rfl, H0⟩ := hrel
            have HSL := Lib.hid' (sched_len bk i)
            by_cases hlt : i < 64
            rotate_left
            · obtain rfl : i = 64 := by omega
              rw [show ((64 : Nat) : Int) = 64 from rfl]
              obtain ⟨S, hS⟩ : ∃ S, S = sched bk 64 := ⟨_, rfl⟩
              rw [← hS] at H0 HSL HST
              clear hS hlt hi
              obtain ⟨wg, rfl⟩ := own_addr0 (H0.row 0 rfl) (by decide)
              obtain ⟨sg, rfl⟩ := own_addr0 (H0.row 1 rfl) (by decide)
              have HSC := Lib.hid' (fun (wq : World) (h : wq.ownsRow 0 111 1 (.slice (some ⟨sg, 0, none⟩) 8 sc) 8 q.vals) => vals_at h)
              have hc8 := HSC.out wr (H0.row 1 rfl)
              go_upto_region 24 with fail
              refine startD (S := (fun w' => w'.cell? ⟨sg, 0, none⟩ = some (.int .u32 ((wN (q.a) : Nat) : Int)) ∧ w'.cell? ⟨sg, 1, none⟩ = some (.int .u32 ((wN (q.b) : Nat) : Int)) ∧ w'.cell? ⟨sg, 2, none⟩ = some (.int .u32 ((wN (q.c) : Nat) : Int)) ∧ w'.cell? ⟨sg, 3, none⟩ = some (.int .u32 ((wN (q.d) : Nat) : Int)) ∧ w'.cell? ⟨sg, 4, none⟩ = some (.int .u32 ((wN (q.e) : Nat) : Int)) ∧ w'.cell? ⟨sg, 5, none⟩ = some (.int .u32 ((wN (q.f) : Nat) : Int)) ∧ w'.cell? ⟨sg, 6, none⟩ = some (.int .u32 ((wN (q.g) : Nat) : Int)) ∧ w'.cell? ⟨sg, 7, none⟩ = some (.int .u32 ((wN (q.h) : Nat) : Int)))) (by kernel_rfl) hc8 (fun hH0 => ?_)
              simp only [List.length_cons, List.length_nil, Nat.reduceAdd, List.replicate_succ, List.replicate_zero]
              refine takeD (i := 0) (d := 154) (v := .slice (some ⟨sg, 0, none⟩) 8 sc) rfl rfl (by kernel_rfl) (by kernel_rfl) (by kernel_rfl) (fun _ _ _ h => h) (yldV [(10, .slice (some ⟨sg, 0, none⟩) 8 sc)] (by kernel_rfl) rfl (by kernel_rfl) ?_) hH0 ?_
              · intro w hSw; go_simp
              dsimp only [List.set_cons_zero, List.set_cons_succ]
              refine takeD (i := 1) (d := 155) (v := .pointer (some ⟨sg, 0, none⟩)) rfl rfl (by kernel_rfl) (by kernel_rfl) (by kernel_rfl) (fun _ _ _ h => h) (yldV [(154, .slice (some ⟨sg, 0, none⟩) 8 sc)] (by kernel_rfl) rfl (by kernel_rfl) ?_) hH0 ?_
              · intro w hSw; first | (go_simp; done) | (go_simp; intro hh; exfalso; omega) | (go_simp; rfl)
              dsimp only [List.set_cons_zero, List.set_cons_succ]
              refine takeD (i := 2) (d := 156) (v := .int .u32 ((wN (q.a) : Nat) : Int)) rfl rfl (by kernel_rfl) (by kernel_rfl) (by kernel_rfl) (fun _ _ _ h => h) (yldV [(155, .pointer (some ⟨sg, 0, none⟩))] (by kernel_rfl) rfl (by kernel_rfl) ?_) hH0 ?_
              · intro w hSw; obtain ⟨q0, q1, q2, q3, q4, q5, q6, q7⟩ := hSw; go_simp
              dsimp only [List.set_cons_zero, List.set_cons_succ]
              refine takeD (i := 3) (d := 157) (v := .slice (some ⟨sg, 0, none⟩) 8 sc) rfl rfl (by kernel_rfl) (by kernel_rfl) (by kernel_rfl) (fun _ _ _ h => h) (yldV [(10, .slice (some ⟨sg, 0, none⟩) 8 sc)] (by kernel_rfl) rfl (by kernel_rfl) ?_) hH0 ?_
              · intro w hSw; go_simp
              dsimp only [List.set_cons_zero, List.set_cons_succ]
              refine takeD (i := 4) (d := 158) (v := .pointer (some ⟨sg, 1, none⟩)) rfl rfl (by kernel_rfl) (by kernel_rfl) (by kernel_rfl) (fun _ _ _ h => h) (yldV [(157, .slice (some ⟨sg, 0, none⟩) 8 sc)] (by kernel_rfl) rfl (by kernel_rfl) ?_) hH0 ?_
              · intro w hSw; first | (go_simp; done) | (go_simp; intro hh; exfalso; omega) | (go_simp; rfl)
              dsimp only [List.set_cons_zero, List.set_cons_succ]
              refine takeD (i := 5) (d := 159) (v := .int .u32 ((wN (q.b) : Nat) : Int)) rfl rfl (by kernel_rfl) (by kernel_rfl) (by kernel_rfl) (fun _ _ _ h => h) (yldV [(158, .pointer (some ⟨sg, 1, none⟩))] (by kernel_rfl) rfl (by kernel_rfl) ?_) hH0 ?_
              · intro w hSw; obtain ⟨q0, q1, q2, q3, q4, q5, q6, q7⟩ := hSw; go_simp
              dsimp only [List.set_cons_zero, List.set_cons_succ]
              refine takeD (i := 6) (d := 160) (v := .slice (some ⟨sg, 0, none⟩) 8 sc) rfl rfl (by kernel_rfl) (by kernel_rfl) (by kernel_rfl) (fun _ _ _ h => h) (yldV [(10, .slice (some ⟨sg, 0, none⟩) 8 sc)] (by kernel_rfl) rfl (by kernel_rfl) ?_) hH0 ?_
              · intro w hSw; go_simp
              dsimp only [List.set_cons_zero, List.set_cons_succ]
              refine takeD (i := 7) (d := 161) (v := .pointer (some ⟨sg, 2, none⟩)) rfl rfl (by kernel_rfl) (by kernel_rfl) (by kernel_rfl) (fun _ _ _ h => h) (yldV [(160, .slice (some ⟨sg, 0, none⟩) 8 sc)] (by kernel_rfl) rfl (by kernel_rfl) ?_) hH0 ?_
              · intro w hSw; first | (go_simp; done) | (go_simp; intro hh; exfalso; omega) | (go_simp; rfl)
              dsimp only [List.set_cons_zero, List.set_cons_succ]
              refine takeD (i := 8) (d := 162) (v := .int .u32 ((wN (q.c) : Nat) : Int)) rfl rfl (by kernel_rfl) (by kernel_rfl) (by kernel_rfl) (fun _ _ _ h => h) (yldV [(161, .pointer (some ⟨sg, 2, none⟩))] (by kernel_rfl) rfl (by kernel_rfl) ?_) hH0 ?_
              · intro w hSw; obtain ⟨q0, q1, q2, q3, q4, q5, q6, q7⟩ := hSw; go_simp
              dsimp only [List.set_cons_zero, List.set_cons_succ]
              refine takeD (i := 9) (d := 163) (v := .slice (some ⟨sg, 0, none⟩) 8 sc) rfl rfl (by kernel_rfl) (by kernel_rfl) (by kernel_rfl) (fun _ _ _ h => h) (yldV [(10, .slice (some ⟨sg, 0, none⟩) 8 sc)] (by kernel_rfl) rfl (by kernel_rfl) ?_) hH0 ?_
              · intro w hSw; go_simp
              dsimp only [List.set_cons_zero, List.set_cons_succ]
              refine takeD (i := 10) (d := 164) (v := .pointer (some ⟨sg, 3, none⟩)) rfl rfl (by kernel_rfl) (by kernel_rfl) (by kernel_rfl) (fun _ _ _ h => h) (yldV [(163, .slice (some ⟨sg, 0, none⟩) 8 sc)] (by kernel_rfl) rfl (by kernel_rfl) ?_) hH0 ?_
              · intro w hSw; first | (go_simp; done) | (go_simp; intro hh; exfalso; omega) | (go_simp; rfl)
              dsimp only [List.set_cons_zero, List.set_cons_succ]
              refine takeD (i := 11) (d := 165) (v := .int .u32 ((wN (q.d) : Nat) : Int)) rfl rfl (by kernel_rfl) (by kernel_rfl) (by kernel_rfl) (fun _ _ _ h => h) (yldV [(164, .pointer (some ⟨sg, 3, none⟩))] (by kernel_rfl) rfl (by kernel_rfl) ?_) hH0 ?_
              · intro w hSw; obtain ⟨q0, q1, q2, q3, q4, q5, q6, q7⟩ := hSw; go_simp
              dsimp only [List.set_cons_zero, List.set_cons_succ]
              refine takeD (i := 12) (d := 166) (v := .slice (some ⟨sg, 0, none⟩) 8 sc) rfl rfl (by kernel_rfl) (by kernel_rfl) (by kernel_rfl) (fun _ _ _ h => h) (yldV [(10, .slice (some ⟨sg, 0, none⟩) 8 sc)] (by kernel_rfl) rfl (by kernel_rfl) ?_) hH0 ?_
              · intro w hSw; go_simp
              dsimp only [List.set_cons_zero, List.set_cons_succ]
              refine takeD (i := 13) (d := 167) (v := .pointer (some ⟨sg, 4, none⟩)) rfl rfl (by kernel_rfl) (by kernel_rfl) (by kernel_rfl) (fun _ _ _ h => h) (yldV [(166, .slice (some ⟨sg, 0, none⟩) 8 sc)] (by kernel_rfl) rfl (by kernel_rfl) ?_) hH0 ?_
              · intro w hSw; first | (go_simp; done) | (go_simp; intro hh; exfalso; omega) | (go_simp; rfl)
              dsimp only [List.set_cons_zero, List.set_cons_succ]
              refine takeD (i := 14) (d := 168) (v := .int .u32 ((wN (q.e) : Nat) : Int)) rfl rfl (by kernel_rfl) (by kernel_rfl) (by kernel_rfl) (fun _ _ _ h => h) (yldV [(167, .pointer (some ⟨sg, 4, none⟩))] (by kernel_rfl) rfl (by kernel_rfl) ?_) hH0 ?_
              · intro w hSw; obtain ⟨q0, q1, q2, q3, q4, q5, q6, q7⟩ := hSw; go_simp
              dsimp only [List.set_cons_zero, List.set_cons_succ]
              refine takeD (i := 15) (d := 169) (v := .slice (some ⟨sg, 0, none⟩) 8 sc) rfl rfl (by kernel_rfl) (by kernel_rfl) (by kernel_rfl) (fun _ _ _ h => h) (yldV [(10, .slice (some ⟨sg, 0, none⟩) 8 sc)] (by kernel_rfl) rfl (by kernel_rfl) ?_) hH0 ?_
              · intro w hSw; go_simp
              dsimp only [List.set_cons_zero, List.set_cons_succ]
              refine takeD (i := 16) (d := 170) (v := .pointer (some ⟨sg, 5, none⟩)) rfl rfl (by kernel_rfl) (by kernel_rfl) (by kernel_rfl) (fun _ _ _ h => h) (yldV [(169, .slice (some ⟨sg, 0, none⟩) 8 sc)] (by kernel_rfl) rfl (by kernel_rfl) ?_) hH0 ?_
              · intro w hSw; first | (go_simp; done) | (go_simp; intro hh; exfalso; omega) | (go_simp; rfl)
              dsimp only [List.set_cons_zero, List.set_cons_succ]
              refine takeD (i := 17) (d := 171) (v := .int .u32 ((wN (q.f) : Nat) : Int)) rfl rfl (by kernel_rfl) (by kernel_rfl) (by kernel_rfl) (fun _ _ _ h => h) (yldV [(170, .pointer (some ⟨sg, 5, none⟩))] (by kernel_rfl) rfl (by kernel_rfl) ?_) hH0 ?_
              · intro w hSw; obtain ⟨q0, q1, q2, q3, q4, q5, q6, q7⟩ := hSw; go_simp
              dsimp only [List.set_cons_zero, List.set_cons_succ]
              refine takeD (i := 18) (d := 172) (v := .slice (some ⟨sg, 0, none⟩) 8 sc) rfl rfl (by kernel_rfl) (by kernel_rfl) (by kernel_rfl) (fun _ _ _ h => h) (yldV [(10, .slice (some ⟨sg, 0, none⟩) 8 sc)] (by kernel_rfl) rfl (by kernel_rfl) ?_) hH0 ?_
              · intro w hSw; go_simp
              dsimp only [List.set_cons_zero, List.set_cons_succ]
              refine takeD (i := 19) (d := 173) (v := .pointer (some ⟨sg, 6, none⟩)) rfl rfl (by kernel_rfl) (by kernel_rfl) (by kernel_rfl) (fun _ _ _ h => h) (yldV [(172, .slice (some ⟨sg, 0, none⟩) 8 sc)] (by kernel_rfl) rfl (by kernel_rfl) ?_) hH0 ?_
              · intro w hSw; first | (go_simp; done) | (go_simp; intro hh; exfalso; omega) | (go_simp; rfl)
              dsimp only [List.set_cons_zero, List.set_cons_succ]
              refine takeD (i := 20) (d := 174) (v := .int .u32 ((wN (q.g) : Nat) : Int)) rfl rfl (by kernel_rfl) (by kernel_rfl) (by kernel_rfl) (fun _ _ _ h => h) (yldV [(173, .pointer (some ⟨sg, 6, none⟩))] (by kernel_rfl) rfl (by kernel_rfl) ?_) hH0 ?_
              · intro w hSw; obtain ⟨q0, q1, q2, q3, q4, q5, q6, q7⟩ := hSw; go_simp
              dsimp only [List.set_cons_zero, List.set_cons_succ]
              refine takeD (i := 21) (d := 175) (v := .slice (some ⟨sg, 0, none⟩) 8 sc) rfl rfl (by kernel_rfl) (by kernel_rfl) (by kernel_rfl) (fun _ _ _ h => h) (yldV [(10, .slice (some ⟨sg, 0, none⟩) 8 sc)] (by kernel_rfl) rfl (by kernel_rfl) ?_) hH0 ?_
              · intro w hSw; go_simp
              dsimp only [List.set_cons_zero, List.set_cons_succ]
              refine takeD (i := 22) (d := 176) (v := .pointer (some ⟨sg, 7, none⟩)) rfl rfl (by kernel_rfl) (by kernel_rfl) (by kernel_rfl) (fun _ _ _ h => h) (yldV [(175, .slice (some ⟨sg, 0, none⟩) 8 sc)] (by kernel_rfl) rfl (by kernel_rfl) ?_) hH0 ?_
              · intro w hSw; first | (go_simp; done) | (go_simp; intro hh; exfalso; omega) | (go_simp; rfl)
              dsimp only [List.set_cons_zero, List.set_cons_succ]
              refine takeD (i := 23) (d := 177) (v := .int .u32 ((wN (q.h) : Nat) : Int)) rfl rfl (by kernel_rfl) (by kernel_rfl) (by kernel_rfl) (fun _ _ _ h => h) (yldV [(176, .pointer (some ⟨sg, 7, none⟩))] (by kernel_rfl) rfl (by kernel_rfl) ?_) hH0 ?_
              · intro w hSw; obtain ⟨q0, q1, q2, q3, q4, q5, q6, q7⟩ := hSw; go_simp
              dsimp only [List.set_cons_zero, List.set_cons_succ]
              refine takeD (i := 24) (d := 17) (v := .int .u32 ((wN (q.a) : Nat) : Int)) rfl rfl (by kernel_rfl) (by kernel_rfl) (by kernel_rfl) (fun _ _ _ h => h) (yldV [(156, .int .u32 ((wN (q.a) : Nat) : Int))] (by kernel_rfl) rfl (by kernel_rfl) ?_) hH0 ?_
              · intro w hSw; go_simp
              dsimp only [List.set_cons_zero, List.set_cons_succ]
              refine takeD (i := 25) (d := 18) (v := .int .u32 ((wN (q.b) : Nat) : Int)) rfl rfl (by kernel_rfl) (by kernel_rfl) (by kernel_rfl) (fun _ _ _ h => h) (yldV [(159, .int .u32 ((wN (q.b) : Nat) : Int))] (by kernel_rfl) rfl (by kernel_rfl) ?_) hH0 ?_
              · intro w hSw; go_simp
              dsimp only [List.set_cons_zero, List.set_cons_succ]
              refine takeD (i := 26) (d := 19) (v := .int .u32 ((wN (q.c) : Nat) : Int)) rfl rfl (by kernel_rfl) (by kernel_rfl) (by kernel_rfl) (fun _ _ _ h => h) (yldV [(162, .int .u32 ((wN (q.c) : Nat) : Int))] (by kernel_rfl) rfl (by kernel_rfl) ?_) hH0 ?_
              · intro w hSw; go_simp
              dsimp only [List.set_cons_zero, List.set_cons_succ]
              refine takeD (i := 27) (d := 20) (v := .int .u32 ((wN (q.d) : Nat) : Int)) rfl rfl (by kernel_rfl) (by kernel_rfl) (by kernel_rfl) (fun _ _ _ h => h) (yldV [(165, .int .u32 ((wN (q.d) : Nat) : Int))] (by kernel_rfl) rfl (by kernel_rfl) ?_) hH0 ?_
              · intro w hSw; go_simp
              dsimp only [List.set_cons_zero, List.set_cons_succ]
              refine takeD (i := 28) (d := 21) (v := .int .u32 ((wN (q.e) : Nat) : Int)) rfl rfl (by kernel_rfl) (by kernel_rfl) (by kernel_rfl) (fun _ _ _ h => h) (yldV [(168, .int .u32 ((wN (q.e) : Nat) : Int))] (by kernel_rfl) rfl (by kernel_rfl) ?_) hH0 ?_
              · intro w hSw; go_simp
              dsimp only [List.set_cons_zero, List.set_cons_succ]
              refine takeD (i := 29) (d := 22) (v := .int .u32 ((wN (q.f) : Nat) : Int)) rfl rfl (by kernel_rfl) (by kernel_rfl) (by kernel_rfl) (fun _ _ _ h => h) (yldV [(171, .int .u32 ((wN (q.f) : Nat) : Int))] (by kernel_rfl) rfl (by kernel_rfl) ?_) hH0 ?_
              · intro w hSw; go_simp
              dsimp only [List.set_cons_zero, List.set_cons_succ]
              refine takeD (i := 30) (d := 23) (v := .int .u32 ((wN (q.g) : Nat) : Int)) rfl rfl (by kernel_rfl) (by kernel_rfl) (by kernel_rfl) (fun _ _ _ h => h) (yldV [(174, .int .u32 ((wN (q.g) : Nat) : Int))] (by kernel_rfl) rfl (by kernel_rfl) ?_) hH0 ?_
              · intro w hSw; go_simp
              dsimp only [List.set_cons_zero, List.set_cons_succ]
              refine takeD (i := 31) (d := 24) (v := .int .u32 ((wN (q.h) : Nat) : Int)) rfl rfl (by kernel_rfl) (by kernel_rfl) (by kernel_rfl) (fun _ _ _ h => h) (yldV [(177, .int .u32 ((wN (q.h) : Nat) : Int))] (by kernel_rfl) rfl (by kernel_rfl) ?_) hH0 ?_
              · intro w hSw; go_simp
              dsimp only [List.set_cons_zero, List.set_cons_succ]
              refine wpAnyH_done (by kernel_rfl) ?_ _
              have H1 := H0.drew
              clear H0 hc8
              generalize wr.drew = w6 at *
              go_wp2_with fail
              go_loopw [25, 17, 18, 19, 20, 21, 22, 23, 24] (fun v25 v17 v18 v19 v20 v21 v22 v23 v24 wr => ∃ (i : Nat) (r : H8), v25 = .int .i64 (i : Nat) ∧ i ≤ 64 ∧ v17 = .int .u32 ((wN (r.a) : Nat) : Int) ∧ v18 = .int .u32 ((wN (r.b) : Nat) : Int) ∧ v19 = .int .u32 ((wN (r.c) : Nat) : Int) ∧ v20 = .int .u32 ((wN (r.d) : Nat) : Int) ∧ v21 = .int .u32 ((wN (r.e) : Nat) : Int) ∧ v22 = .int .u32 ((wN (r.f) : Nat) : Int) ∧ v23 = .int .u32 ((wN (r.g) : Nat) : Int) ∧ v24 = .int .u32 ((wN (r.h) : Nat) : Int) ∧ Hid (r = rounds S i q) ∧ Sep w NoF [.row 111 1 (.slice (some ⟨wg, 0, none⟩) 64 wc) 64 (S.map wV), .row 111 1 (.slice (some ⟨sg, 0, none⟩) 8 sc) 8 q.vals, .row 5 1 (.slice (some ⟨ba, boff, none⟩) (64 * m) c) (64 * m) (byteVs B), .box w.heap.size zeroD 64] wr) (fun v25 _ _ _ _ _ _ _ _ _ => 64 - (intOf v25).toNat)
              case atStart => exact ⟨0, q, rfl, by decide, rfl, rfl, rfl, rfl, rfl, rfl, rfl, rfl, Lib.hid' rfl, H1⟩
              case round =>
                clear H1
                obtain ⟨i, r, rfl, hi, rfl, rfl, rfl, rfl, rfl, rfl, rfl, rfl, HR, H0⟩ := hrel
                by_cases hlt : i < 64
                rotate_left
                · obtain rfl : i = 64 := by omega
                  rw [show ((64 : Nat) : Int) = 64 from rfl]
                  have hc8 := HSC.out wr (H0.row 1 rfl)
                  have HVL := Lib.hid' (show (stepS q bk).vals = [.int .u32 ((wN (q.a + r.a) : Nat) : Int), .int .u32 ((wN (q.b + r.b) : Nat) : Int), .int .u32 ((wN (q.c + r.c) : Nat) : Int), .int .u32 ((wN (q.d + r.d) : Nat) : Int), .int .u32 ((wN (q.e + r.e) : Nat) : Int), .int .u32 ((wN (q.f + r.f) : Nat) : Int), .int .u32 ((wN (q.g + r.g) : Nat) : Int), .int .u32 ((wN (q.h + r.h) : Nat) : Int)] by
                    rw [HST.out, ← HR.out]
                    show [_, _, _, _, _, _, _, _] = _
                    simp only [H8.add, wV]
                    rw [BitVec.add_comm r.a, BitVec.add_comm r.b, BitVec.add_comm r.c, BitVec.add_comm r.d, BitVec.add_comm r.e, BitVec.add_comm r.f, BitVec.add_comm r.g, BitVec.add_comm r.h])
                  clear hlt hi
                  go_upto_region 38 with fail
                  refine startD (S := (fun w' => w'.cell? ⟨sg, 0, none⟩ = some (.int .u32 ((wN (q.a) : Nat) : Int)) ∧ w'.cell? ⟨sg, 1, none⟩ = some (.int .u32 ((wN (q.b) : Nat) : Int)) ∧ w'.cell? ⟨sg, 2, none⟩ = some (.int .u32 ((wN (q.c) : Nat) : Int)) ∧ w'.cell? ⟨sg, 3, none⟩ = some (.int .u32 ((wN (q.d) : Nat) : Int)) ∧ w'.cell? ⟨sg, 4, none⟩ = some (.int .u32 ((wN (q.e) : Nat) : Int)) ∧ w'.cell? ⟨sg, 5, none⟩ = some (.int .u32 ((wN (q.f) : Nat) : Int)) ∧ w'.cell? ⟨sg, 6, none⟩ = some (.int .u32 ((wN (q.g) : Nat) : Int)) ∧ w'.cell? ⟨sg, 7, none⟩ = some (.int .u32 ((wN (q.h) : Nat) : Int)))) (by kernel_rfl) hc8 (fun hH0 => ?_)
                  simp only [List.length_cons, List.length_nil, Nat.reduceAdd, List.replicate_succ, List.replicate_zero]
                  refine takeD (i := 0) (d := 243) (v := .slice (some ⟨sg, 0, none⟩) 8 sc) rfl rfl (by kernel_rfl) (by kernel_rfl) (by kernel_rfl) (fun _ _ _ h => h) (yldV [(10, .slice (some ⟨sg, 0, none⟩) 8 sc)] (by kernel_rfl) rfl (by kernel_rfl) ?_) hH0 ?_
                  · intro w hSw; go_simp
                  dsimp only [List.set_cons_zero, List.set_cons_succ]
                  refine takeD (i := 1) (d := 244) (v := .pointer (some ⟨sg, 0, none⟩)) rfl rfl (by kernel_rfl) (by kernel_rfl) (by kernel_rfl) (fun _ _ _ h => h) (yldV [(243, .slice (some ⟨sg, 0, none⟩) 8 sc)] (by kernel_rfl) rfl (by kernel_rfl) ?_) hH0 ?_
                  · intro w hSw; first | (go_simp; done) | (go_simp; intro hh; exfalso; omega) | (go_simp; rfl)
                  dsimp only [List.set_cons_zero, List.set_cons_succ]
                  refine takeD (i := 2) (d := 245) (v := .int .u32 ((wN (q.a) : Nat) : Int)) rfl rfl (by kernel_rfl) (by kernel_rfl) (by kernel_rfl) (fun _ _ _ h => h) (yldV [(244, .pointer (some ⟨sg, 0, none⟩))] (by kernel_rfl) rfl (by kernel_rfl) ?_) hH0 ?_
                  · intro w hSw; obtain ⟨q0, q1, q2, q3, q4, q5, q6, q7⟩ := hSw; go_simp
                  dsimp only [List.set_cons_zero, List.set_cons_succ]
                  refine takeD (i := 3) (d := 246) (v := .int .u32 ((wN (r.a) : Nat) : Int)) rfl rfl (by kernel_rfl) (by kernel_rfl) (by kernel_rfl) (fun _ _ _ h => h) (yldV [(17, .int .u32 ((wN (r.a) : Nat) : Int))] (by kernel_rfl) rfl (by kernel_rfl) ?_) hH0 ?_
                  · intro w hSw; go_simp
                  dsimp only [List.set_cons_zero, List.set_cons_succ]
                  refine takeD (i := 4) (d := 247) (v := .int .u32 ((wN (q.a + r.a) : Nat) : Int)) rfl rfl (by kernel_rfl) (by kernel_rfl) (by kernel_rfl) (fun _ _ _ h => h) (yldV [(245, .int .u32 ((wN (q.a) : Nat) : Int)), (246, .int .u32 ((wN (r.a) : Nat) : Int))] (by kernel_rfl) rfl (by kernel_rfl) ?_) hH0 ?_
                  · intro w hSw; go_simp; first | exact w_add (q.a) (r.a) | exact w_add2 (q.a) (r.a)
                  dsimp only [List.set_cons_zero, List.set_cons_succ]
                  refine takeD (i := 5) (d := 248) (v := .slice (some ⟨sg, 0, none⟩) 8 sc) rfl rfl (by kernel_rfl) (by kernel_rfl) (by kernel_rfl) (fun _ _ _ h => h) (yldV [(10, .slice (some ⟨sg, 0, none⟩) 8 sc)] (by kernel_rfl) rfl (by kernel_rfl) ?_) hH0 ?_
                  · intro w hSw; go_simp
                  dsimp only [List.set_cons_zero, List.set_cons_succ]
                  refine takeD (i := 6) (d := 249) (v := .pointer (some ⟨sg, 1, none⟩)) rfl rfl (by kernel_rfl) (by kernel_rfl) (by kernel_rfl) (fun _ _ _ h => h) (yldV [(248, .slice (some ⟨sg, 0, none⟩) 8 sc)] (by kernel_rfl) rfl (by kernel_rfl) ?_) hH0 ?_
                  · intro w hSw; first | (go_simp; done) | (go_simp; intro hh; exfalso; omega) | (go_simp; rfl)
                  dsimp only [List.set_cons_zero, List.set_cons_succ]
                  refine takeD (i := 7) (d := 250) (v := .int .u32 ((wN (q.b) : Nat) : Int)) rfl rfl (by kernel_rfl) (by kernel_rfl) (by kernel_rfl) (fun _ _ _ h => h) (yldV [(249, .pointer (some ⟨sg, 1, none⟩))] (by kernel_rfl) rfl (by kernel_rfl) ?_) hH0 ?_
                  · intro w hSw; obtain ⟨q0, q1, q2, q3, q4, q5, q6, q7⟩ := hSw; go_simp
                  dsimp only [List.set_cons_zero, List.set_cons_succ]
                  refine takeD (i := 8) (d := 251) (v := .int .u32 ((wN (r.b) : Nat) : Int)) rfl rfl (by kernel_rfl) (by kernel_rfl) (by kernel_rfl) (fun _ _ _ h => h) (yldV [(18, .int .u32 ((wN (r.b) : Nat) : Int))] (by kernel_rfl) rfl (by kernel_rfl) ?_) hH0 ?_
                  · intro w hSw; go_simp
                  dsimp only [List.set_cons_zero, List.set_cons_succ]
                  refine takeD (i := 9) (d := 252) (v := .int .u32 ((wN (q.b + r.b) : Nat) : Int)) rfl rfl (by kernel_rfl) (by kernel_rfl) (by kernel_rfl) (fun _ _ _ h => h) (yldV [(250, .int .u32 ((wN (q.b) : Nat) : Int)), (251, .int .u32 ((wN (r.b) : Nat) : Int))] (by kernel_rfl) rfl (by kernel_rfl) ?_) hH0 ?_
                  · intro w hSw; go_simp; first | exact w_add (q.b) (r.b) | exact w_add2 (q.b) (r.b)
                  dsimp only [List.set_cons_zero, List.set_cons_succ]
                  refine takeD (i := 10) (d := 253) (v := .slice (some ⟨sg, 0, none⟩) 8 sc) rfl rfl (by kernel_rfl) (by kernel_rfl) (by kernel_rfl) (fun _ _ _ h => h) (yldV [(10, .slice (some ⟨sg, 0, none⟩) 8 sc)] (by kernel_rfl) rfl (by kernel_rfl) ?_) hH0 ?_
                  · intro w hSw; go_simp
                  dsimp only [List.set_cons_zero, List.set_cons_succ]
                  refine takeD (i := 11) (d := 254) (v := .pointer (some ⟨sg, 2, none⟩)) rfl rfl (by kernel_rfl) (by kernel_rfl) (by kernel_rfl) (fun _ _ _ h => h) (yldV [(253, .slice (some ⟨sg, 0, none⟩) 8 sc)] (by kernel_rfl) rfl (by kernel_rfl) ?_) hH0 ?_
                  · intro w hSw; first | (go_simp; done) | (go_simp; intro hh; exfalso; omega) | (go_simp; rfl)
                  dsimp only [List.set_cons_zero, List.set_cons_succ]
                  refine takeD (i := 12) (d := 255) (v := .int .u32 ((wN (q.c) : Nat) : Int)) rfl rfl (by kernel_rfl) (by kernel_rfl) (by kernel_rfl) (fun _ _ _ h => h) (yldV [(254, .pointer (some ⟨sg, 2, none⟩))] (by kernel_rfl) rfl (by kernel_rfl) ?_) hH0 ?_
                  · intro w hSw; obtain ⟨q0, q1, q2, q3, q4, q5, q6, q7⟩ := hSw; go_simp
                  dsimp only [List.set_cons_zero, List.set_cons_succ]
                  refine takeD (i := 13) (d := 256) (v := .int .u32 ((wN (r.c) : Nat) : Int)) rfl rfl (by kernel_rfl) (by kernel_rfl) (by kernel_rfl) (fun _ _ _ h => h) (yldV [(19, .int .u32 ((wN (r.c) : Nat) : Int))] (by kernel_rfl) rfl (by kernel_rfl) ?_) hH0 ?_
                  · intro w hSw; go_simp
                  dsimp only [List.set_cons_zero, List.set_cons_succ]
                  refine takeD (i := 14) (d := 257) (v := .int .u32 ((wN (q.c + r.c) : Nat) : Int)) rfl rfl (by kernel_rfl) (by kernel_rfl) (by kernel_rfl) (fun _ _ _ h => h) (yldV [(255, .int .u32 ((wN (q.c) : Nat) : Int)), (256, .int .u32 ((wN (r.c) : Nat) : Int))] (by kernel_rfl) rfl (by kernel_rfl) ?_) hH0 ?_
                  · intro w hSw; go_simp; first | exact w_add (q.c) (r.c) | exact w_add2 (q.c) (r.c)
                  dsimp only [List.set_cons_zero, List.set_cons_succ]
                  refine takeD (i := 15) (d := 258) (v := .slice (some ⟨sg, 0, none⟩) 8 sc) rfl rfl (by kernel_rfl) (by kernel_rfl) (by kernel_rfl) (fun _ _ _ h => h) (yldV [(10, .slice (some ⟨sg, 0, none⟩) 8 sc)] (by kernel_rfl) rfl (by kernel_rfl) ?_) hH0 ?_
                  · intro w hSw; go_simp
                  dsimp only [List.set_cons_zero, List.set_cons_succ]
                  refine takeD (i := 16) (d := 259) (v := .pointer (some ⟨sg, 3, none⟩)) rfl rfl (by kernel_rfl) (by kernel_rfl) (by kernel_rfl) (fun _ _ _ h => h) (yldV [(258, .slice (some ⟨sg, 0, none⟩) 8 sc)] (by kernel_rfl) rfl (by kernel_rfl) ?_) hH0 ?_
                  · intro w hSw; first | (go_simp; done) | (go_simp; intro hh; exfalso; omega) | (go_simp; rfl)
                  dsimp only [List.set_cons_zero, List.set_cons_succ]
                  refine takeD (i := 17) (d := 260) (v := .int .u32 ((wN (q.d) : Nat) : Int)) rfl rfl (by kernel_rfl) (by kernel_rfl) (by kernel_rfl) (fun _ _ _ h => h) (yldV [(259, .pointer (some ⟨sg, 3, none⟩))] (by kernel_rfl) rfl (by kernel_rfl) ?_) hH0 ?_
                  · intro w hSw; obtain ⟨q0, q1, q2, q3, q4, q5, q6, q7⟩ := hSw; go_simp
                  dsimp only [List.set_cons_zero, List.set_cons_succ]
                  refine takeD (i := 18) (d := 261) (v := .int .u32 ((wN (r.d) : Nat) : Int)) rfl rfl (by kernel_rfl) (by kernel_rfl) (by kernel_rfl) (fun _ _ _ h => h) (yldV [(20, .int .u32 ((wN (r.d) : Nat) : Int))] (by kernel_rfl) rfl (by kernel_rfl) ?_) hH0 ?_
                  · intro w hSw; go_simp
                  dsimp only [List.set_cons_zero, List.set_cons_succ]
                  refine takeD (i := 19) (d := 262) (v := .int .u32 ((wN (q.d + r.d) : Nat) : Int)) rfl rfl (by kernel_rfl) (by kernel_rfl) (by kernel_rfl) (fun _ _ _ h => h) (yldV [(260, .int .u32 ((wN (q.d) : Nat) : Int)), (261, .int .u32 ((wN (r.d) : Nat) : Int))] (by kernel_rfl) rfl (by kernel_rfl) ?_) hH0 ?_
                  · intro w hSw; go_simp; first | exact w_add (q.d) (r.d) | exact w_add2 (q.d) (r.d)
                  dsimp only [List.set_cons_zero, List.set_cons_succ]
                  refine takeD (i := 20) (d := 263) (v := .slice (some ⟨sg, 0, none⟩) 8 sc) rfl rfl (by kernel_rfl) (by kernel_rfl) (by kernel_rfl) (fun _ _ _ h => h) (yldV [(10, .slice (some ⟨sg, 0, none⟩) 8 sc)] (by kernel_rfl) rfl (by kernel_rfl) ?_) hH0 ?_
                  · intro w hSw; go_simp
                  dsimp only [List.set_cons_zero, List.set_cons_succ]
                  refine takeD (i := 21) (d := 264) (v := .pointer (some ⟨sg, 4, none⟩)) rfl rfl (by kernel_rfl) (by kernel_rfl) (by kernel_rfl) (fun _ _ _ h => h) (yldV [(263, .slice (some ⟨sg, 0, none⟩) 8 sc)] (by kernel_rfl) rfl (by kernel_rfl) ?_) hH0 ?_
                  · intro w hSw; first | (go_simp; done) | (go_simp; intro hh; exfalso; omega) | (go_simp; rfl)
                  dsimp only [List.set_cons_zero, List.set_cons_succ]
                  refine takeD (i := 22) (d := 265) (v := .int .u32 ((wN (q.e) : Nat) : Int)) rfl rfl (by kernel_rfl) (by kernel_rfl) (by kernel_rfl) (fun _ _ _ h => h) (yldV [(264, .pointer (some ⟨sg, 4, none⟩))] (by kernel_rfl) rfl (by kernel_rfl) ?_) hH0 ?_
                  · intro w hSw; obtain ⟨q0, q1, q2, q3, q4, q5, q6, q7⟩ := hSw; go_simp
                  dsimp only [List.set_cons_zero, List.set_cons_succ]
                  refine takeD (i := 23) (d := 266) (v := .int .u32 ((wN (r.e) : Nat) : Int)) rfl rfl (by kernel_rfl) (by kernel_rfl) (by kernel_rfl) (fun _ _ _ h => h) (yldV [(21, .int .u32 ((wN (r.e) : Nat) : Int))] (by kernel_rfl) rfl (by kernel_rfl) ?_) hH0 ?_
                  · intro w hSw; go_simp
                  dsimp only [List.set_cons_zero, List.set_cons_succ]
                  refine takeD (i := 24) (d := 267) (v := .int .u32 ((wN (q.e + r.e) : Nat) : Int)) rfl rfl (by kernel_rfl) (by kernel_rfl) (by kernel_rfl) (fun _ _ _ h => h) (yldV [(265, .int .u32 ((wN (q.e) : Nat) : Int)), (266, .int .u32 ((wN (r.e) : Nat) : Int))] (by kernel_rfl) rfl (by kernel_rfl) ?_) hH0 ?_
                  · intro w hSw; go_simp; first | exact w_add (q.e) (r.e) | exact w_add2 (q.e) (r.e)
                  dsimp only [List.set_cons_zero, List.set_cons_succ]
                  refine takeD (i := 25) (d := 268) (v := .slice (some ⟨sg, 0, none⟩) 8 sc) rfl rfl (by kernel_rfl) (by kernel_rfl) (by kernel_rfl) (fun _ _ _ h => h) (yldV [(10, .slice (some ⟨sg, 0, none⟩) 8 sc)] (by kernel_rfl) rfl (by kernel_rfl) ?_) hH0 ?_
                  · intro w hSw; go_simp
                  dsimp only [List.set_cons_zero, List.set_cons_succ]
                  refine takeD (i := 26) (d := 269) (v := .pointer (some ⟨sg, 5, none⟩)) rfl rfl (by kernel_rfl) (by kernel_rfl) (by kernel_rfl) (fun _ _ _ h => h) (yldV [(268, .slice (some ⟨sg, 0, none⟩) 8 sc)] (by kernel_rfl) rfl (by kernel_rfl) ?_) hH0 ?_
                  · intro w hSw; first | (go_simp; done) | (go_simp; intro hh; exfalso; omega) | (go_simp; rfl)
                  dsimp only [List.set_cons_zero, List.set_cons_succ]
                  refine takeD (i := 27) (d := 270) (v := .int .u32 ((wN (q.f) : Nat) : Int)) rfl rfl (by kernel_rfl) (by kernel_rfl) (by kernel_rfl) (fun _ _ _ h => h) (yldV [(269, .pointer (some ⟨sg, 5, none⟩))] (by kernel_rfl) rfl (by kernel_rfl) ?_) hH0 ?_
                  · intro w hSw; obtain ⟨q0, q1, q2, q3, q4, q5, q6, q7⟩ := hSw; go_simp
                  dsimp only [List.set_cons_zero, List.set_cons_succ]
                  refine takeD (i := 28) (d := 271) (v := .int .u32 ((wN (r.f) : Nat) : Int)) rfl rfl (by kernel_rfl) (by kernel_rfl) (by kernel_rfl) (fun _ _ _ h => h) (yldV [(22, .int .u32 ((wN (r.f) : Nat) : Int))] (by kernel_rfl) rfl (by kernel_rfl) ?_) hH0 ?_
                  · intro w hSw; go_simp
                  dsimp only [List.set_cons_zero, List.set_cons_succ]
                  refine takeD (i := 29) (d := 272) (v := .int .u32 ((wN (q.f + r.f) : Nat) : Int)) rfl rfl (by kernel_rfl) (by kernel_rfl) (by kernel_rfl) (fun _ _ _ h => h) (yldV [(270, .int .u32 ((wN (q.f) : Nat) : Int)), (271, .int .u32 ((wN (r.f) : Nat) : Int))] (by kernel_rfl) rfl (by kernel_rfl) ?_) hH0 ?_
                  · intro w hSw; go_simp; first | exact w_add (q.f) (r.f) | exact w_add2 (q.f) (r.f)
                  dsimp only [List.set_cons_zero, List.set_cons_succ]
                  refine takeD (i := 30) (d := 273) (v := .slice (some ⟨sg, 0, none⟩) 8 sc) rfl rfl (by kernel_rfl) (by kernel_rfl) (by kernel_rfl) (fun _ _ _ h => h) (yldV [(10, .slice (some ⟨sg, 0, none⟩) 8 sc)] (by kernel_rfl) rfl (by kernel_rfl) ?_) hH0 ?_
                  · intro w hSw; go_simp
                  dsimp only [List.set_cons_zero, List.set_cons_succ]
                  refine takeD (i := 31) (d := 274) (v := .pointer (some ⟨sg, 6, none⟩)) rfl rfl (by kernel_rfl) (by kernel_rfl) (by kernel_rfl) (fun _ _ _ h => h) (yldV [(273, .slice (some ⟨sg, 0, none⟩) 8 sc)] (by kernel_rfl) rfl (by kernel_rfl) ?_) hH0 ?_
                  · intro w hSw; first | (go_simp; done) | (go_simp; intro hh; exfalso; omega) | (go_simp; rfl)
                  dsimp only [List.set_cons_zero, List.set_cons_succ]
                  refine takeD (i := 32) (d := 275) (v := .int .u32 ((wN (q.g) : Nat) : Int)) rfl rfl (by kernel_rfl) (by kernel_rfl) (by kernel_rfl) (fun _ _ _ h => h) (yldV [(274, .pointer (some ⟨sg, 6, none⟩))] (by kernel_rfl) rfl (by kernel_rfl) ?_) hH0 ?_
                  · intro w hSw; obtain ⟨q0, q1, q2, q3, q4, q5, q6, q7⟩ := hSw; go_simp
                  dsimp only [List.set_cons_zero, List.set_cons_succ]
                  refine takeD (i := 33) (d := 276) (v := .int .u32 ((wN (r.g) : Nat) : Int)) rfl rfl (by kernel_rfl) (by kernel_rfl) (by kernel_rfl) (fun _ _ _ h => h) (yldV [(23, .int .u32 ((wN (r.g) : Nat) : Int))] (by kernel_rfl) rfl (by kernel_rfl) ?_) hH0 ?_
                  · intro w hSw; go_simp
                  dsimp only [List.set_cons_zero, List.set_cons_succ]
                  refine takeD (i := 34) (d := 277) (v := .int .u32 ((wN (q.g + r.g) : Nat) : Int)) rfl rfl (by kernel_rfl) (by kernel_rfl) (by kernel_rfl) (fun _ _ _ h => h) (yldV [(275, .int .u32 ((wN (q.g) : Nat) : Int)), (276, .int .u32 ((wN (r.g) : Nat) : Int))] (by kernel_rfl) rfl (by kernel_rfl) ?_) hH0 ?_
                  · intro w hSw; go_simp; first | exact w_add (q.g) (r.g) | exact w_add2 (q.g) (r.g)
                  dsimp only [List.set_cons_zero, List.set_cons_succ]
                  refine takeD (i := 35) (d := 278) (v := .slice (some ⟨sg, 0, none⟩) 8 sc) rfl rfl (by kernel_rfl) (by kernel_rfl) (by kernel_rfl) (fun _ _ _ h => h) (yldV [(10, .slice (some ⟨sg, 0, none⟩) 8 sc)] (by kernel_rfl) rfl (by kernel_rfl) ?_) hH0 ?_
                  · intro w hSw; go_simp
                  dsimp only [List.set_cons_zero, List.set_cons_succ]
                  refine takeD (i := 36) (d := 279) (v := .pointer (some ⟨sg, 7, none⟩)) rfl rfl (by kernel_rfl) (by kernel_rfl) (by kernel_rfl) (fun _ _ _ h => h) (yldV [(278, .slice (some ⟨sg, 0, none⟩) 8 sc)] (by kernel_rfl) rfl (by kernel_rfl) ?_) hH0 ?_
                  · intro w hSw; first | (go_simp; done) | (go_simp; intro hh; exfalso; omega) | (go_simp; rfl)
                  dsimp only [List.set_cons_zero, List.set_cons_succ]
                  refine takeD (i := 37) (d := 280) (v := .int .u32 ((wN (q.h) : Nat) : Int)) rfl rfl (by kernel_rfl) (by kernel_rfl) (by kernel_rfl) (fun _ _ _ h => h) (yldV [(279, .pointer (some ⟨sg, 7, none⟩))] (by kernel_rfl) rfl (by kernel_rfl) ?_) hH0 ?_
                  · intro w hSw; obtain ⟨q0, q1, q2, q3, q4, q5, q6, q7⟩ := hSw; go_simp
                  dsimp only [List.set_cons_zero, List.set_cons_succ]
                  refine takeD (i := 38) (d := 281) (v := .int .u32 ((wN (r.h) : Nat) : Int)) rfl rfl (by kernel_rfl) (by kernel_rfl) (by kernel_rfl) (fun _ _ _ h => h) (yldV [(24, .int .u32 ((wN (r.h) : Nat) : Int))] (by kernel_rfl) rfl (by kernel_rfl) ?_) hH0 ?_
                  · intro w hSw; go_simp
                  dsimp only [List.set_cons_zero, List.set_cons_succ]
                  refine takeD (i := 39) (d := 282) (v := .int .u32 ((wN (q.h + r.h) : Nat) : Int)) rfl rfl (by kernel_rfl) (by kernel_rfl) (by kernel_rfl) (fun _ _ _ h => h) (yldV [(280, .int .u32 ((wN (q.h) : Nat) : Int)), (281, .int .u32 ((wN (r.h) : Nat) : Int))] (by kernel_rfl) rfl (by kernel_rfl) ?_) hH0 ?_
                  · intro w hSw; go_simp; first | exact w_add (q.h) (r.h) | exact w_add2 (q.h) (r.h)
                  dsimp only [List.set_cons_zero, List.set_cons_succ]
                  refine wpAnyH_ready (rs := [40]) (by kernel_rfl) (by simp) (AllReadyH.cons (o := _) rfl (fun K hK => ?_) AllReadyH.nil)
                  go_simp
                  refine hK.out _ _ ?_ (fun hH1 => ?_)
                  · exact HSC.out _ ((H0.allocX _).drew.row 1 rfl)
                  clear hK K
                  refine takeD (i := 41) (d := 10) (v := .slice (some ⟨wr.heap.size, 0, none⟩) 8 8) rfl rfl (by kernel_rfl) (by kernel_rfl) (by kernel_rfl) (fun _ _ _ h => h) (yldV [(283, .slice (some ⟨wr.heap.size, 0, none⟩) 8 8)] (by kernel_rfl) rfl (by kernel_rfl) ?_) hH1 ?_
                  · intro w hSw; go_simp
                  dsimp only [List.set_cons_zero, List.set_cons_succ]
                  refine wpAnyH_done (by kernel_rfl) ?_ _
                  have H2 := (lit_row_at H0 wr.heap.size 111 1 8 [.int .u32 ((wN (q.a + r.a) : Nat) : Int), .int .u32 ((wN (q.b + r.b) : Nat) : Int), .int .u32 ((wN (q.c + r.c) : Nat) : Int), .int .u32 ((wN (q.d + r.d) : Nat) : Int), .int .u32 ((wN (q.e + r.e) : Nat) : Int), .int .u32 ((wN (q.f + r.f) : Nat) : Int), .int .u32 ((wN (q.g + r.g) : Nat) : Int), .int .u32 ((wN (q.h + r.h) : Nat) : Int)] rfl (by decide) rfl).drew
                  have H3 : Sep w NoF [.row 111 1 (.slice (some ⟨wr.heap.size, 0, none⟩) 8 8) 8 ((blocks B (k + 1) shaH).vals), .row 5 1 (.slice (some ⟨ba, boff, none⟩) (64 * m) c) (64 * m) (byteVs B), .box w.heap.size zeroD 64] ((wr.alloc (.cells #[.int .u32 ((wN (q.a + r.a) : Nat) : Int), .int .u32 ((wN (q.b + r.b) : Nat) : Int), .int .u32 ((wN (q.c + r.c) : Nat) : Int), .int .u32 ((wN (q.d + r.d) : Nat) : Int), .int .u32 ((wN (q.e + r.e) : Nat) : Int), .int .u32 ((wN (q.f + r.f) : Nat) : Int), .int .u32 ((wN (q.g + r.g) : Nat) : Int), .int .u32 ((wN (q.h + r.h) : Nat) : Int)] 111)).drew) := by rw [HNX.out, HVL.out]; exact ((H2.drop 1).drop 1)
                  have hat := HAT.out
                  have hat0 : 0 ≤ at' := by omega
                  have HAT2 := Lib.hid' (show at' + 64 = 64 * ((k + 1 : Nat) : Int) by omega)
                  have hatb : at' ≤ 1073741952 := by omega
                  clear hat H0 H2 hc8
                  go_wp2_with fail
                  go_roundw
                  case rel => exact ⟨k + 1, at' + 64, _, 8, by first | rfl | go_num, HAT2.out, by omega, rfl, H3⟩
                  case measure => simp [intOf]; omega
                · as_aux_lemma =>
                  have hlt' : (i : Int) < 64 := by omega
                  have HNR := Lib.hid' (show rounds S (i + 1) q = r.rnd (shaK.getD i 0) (S.getD i 0) by rw [HR.out]; rfl)
                  have ck := word_at (HK.out.below (Nat.le_refl _) H0.toBelow) (show shaK.length = 64 from rfl) hlt
                  have cw := keep_at ((H0.row 0 rfl).cells (g := wg) rfl) (show i < S.length by rw [HSL.out]; exact hlt)
                  generalize shaK.getD i 0 = kk at *
                  generalize S.getD i 0 = ww at *
                  obtain ⟨px, hpx⟩ : ∃ px, px = r.x kk ww := ⟨_, rfl⟩
                  obtain ⟨py, hpy⟩ : ∃ py, py = r.y := ⟨_, rfl⟩
                  have HPX := Lib.hid' hpx
                  have HPY := Lib.hid' hpy
                  have HNR2 := Lib.hid' (show (⟨px + py, r.a, r.b, r.c, r.d + px, r.e, r.f, r.g⟩ : H8) = rounds S (i + 1) q by rw [HNR.out, hpx, hpy]; rfl)
                  clear hpx hpy HR HNR
                  go_upto_region 28 with fail
                  refine startD (S := (fun w' => w'.cell? ⟨ko, kof + i, none⟩ = some (.int .u32 ((wN (kk) : Nat) : Int)) ∧ w'.cell? ⟨wg, i, none⟩ = some (.int .u32 ((wN (ww) : Nat) : Int)))) (by kernel_rfl) ⟨ck, cw⟩ (fun hH0 => ?_)
                  simp only [List.length_cons, List.length_nil, Nat.reduceAdd, List.replicate_succ, List.replicate_zero]
                  refine takeD (i := 0) (d := 182) (v := .int .u32 ((wN (r.h) : Nat) : Int)) rfl rfl (by kernel_rfl) (by kernel_rfl) (by kernel_rfl) (fun _ _ _ h => h) (yldV [(24, .int .u32 ((wN (r.h) : Nat) : Int))] (by kernel_rfl) rfl (by kernel_rfl) ?_) hH0 ?_
                  · intro w hSw; go_simp
                  dsimp only [List.set_cons_zero, List.set_cons_succ]
                  refine takeD (i := 1) (d := 183) (v := .int .u32 ((wN (r.e) : Nat) : Int)) rfl rfl (by kernel_rfl) (by kernel_rfl) (by kernel_rfl) (fun _ _ _ h => h) (yldV [(21, .int .u32 ((wN (r.e) : Nat) : Int))] (by kernel_rfl) rfl (by kernel_rfl) ?_) hH0 ?_
                  · intro w hSw; go_simp
                  dsimp only [List.set_cons_zero, List.set_cons_succ]
                  refine takeD (i := 3) (d := 185) (v := .int .u32 ((wN (r.e) : Nat) : Int)) rfl rfl (by kernel_rfl) (by kernel_rfl) (by kernel_rfl) (fun _ _ _ h => h) (yldV [(21, .int .u32 ((wN (r.e) : Nat) : Int))] (by kernel_rfl) rfl (by kernel_rfl) ?_) hH0 ?_
                  · intro w hSw; go_simp
                  dsimp only [List.set_cons_zero, List.set_cons_succ]
                  refine takeD (i := 6) (d := 188) (v := .int .u32 ((wN (r.e) : Nat) : Int)) rfl rfl (by kernel_rfl) (by kernel_rfl) (by kernel_rfl) (fun _ _ _ h => h) (yldV [(21, .int .u32 ((wN (r.e) : Nat) : Int))] (by kernel_rfl) rfl (by kernel_rfl) ?_) hH0 ?_
                  · intro w hSw; go_simp
                  dsimp only [List.set_cons_zero, List.set_cons_succ]
                  refine takeD (i := 10) (d := 192) (v := .int .u32 ((wN (r.e) : Nat) : Int)) rfl rfl (by kernel_rfl) (by kernel_rfl) (by kernel_rfl) (fun _ _ _ h => h) (yldV [(21, .int .u32 ((wN (r.e) : Nat) : Int))] (by kernel_rfl) rfl (by kernel_rfl) ?_) hH0 ?_
                  · intro w hSw; go_simp
                  dsimp only [List.set_cons_zero, List.set_cons_succ]
                  refine takeD (i := 11) (d := 193) (v := .int .u32 ((wN (r.f) : Nat) : Int)) rfl rfl (by kernel_rfl) (by kernel_rfl) (by kernel_rfl) (fun _ _ _ h => h) (yldV [(22, .int .u32 ((wN (r.f) : Nat) : Int))] (by kernel_rfl) rfl (by kernel_rfl) ?_) hH0 ?_
                  · intro w hSw; go_simp
                  dsimp only [List.set_cons_zero, List.set_cons_succ]
                  refine takeD (i := 12) (d := 194) (v := .int .u32 ((wN (r.e &&& r.f) : Nat) : Int)) rfl rfl (by kernel_rfl) (by kernel_rfl) (by kernel_rfl) (fun _ _ _ h => h) (yldV [(192, .int .u32 ((wN (r.e) : Nat) : Int)), (193, .int .u32 ((wN (r.f) : Nat) : Int))] (by kernel_rfl) rfl (by kernel_rfl) ?_) hH0 ?_
                  · intro w hSw; go_simp; exact w_and (r.e) (r.f)
                  dsimp only [List.set_cons_zero, List.set_cons_succ]
                  refine takeD (i := 13) (d := 195) (v := .int .u32 ((wN (r.e) : Nat) : Int)) rfl rfl (by kernel_rfl) (by kernel_rfl) (by kernel_rfl) (fun _ _ _ h => h) (yldV [(21, .int .u32 ((wN (r.e) : Nat) : Int))] (by kernel_rfl) rfl (by kernel_rfl) ?_) hH0 ?_
                  · intro w hSw; go_simp
                  dsimp only [List.set_cons_zero, List.set_cons_succ]
                  refine takeD (i := 14) (d := 196) (v := .int .u32 ((wN (~~~r.e) : Nat) : Int)) rfl rfl (by kernel_rfl) (by kernel_rfl) (by kernel_rfl) (fun _ _ _ h => h) (yldV [(195, .int .u32 ((wN (r.e) : Nat) : Int))] (by kernel_rfl) rfl (by kernel_rfl) ?_) hH0 ?_
                  · intro w hSw; go_simp; exact w_not4 _
                  dsimp only [List.set_cons_zero, List.set_cons_succ]
                  refine takeD (i := 15) (d := 197) (v := .int .u32 ((wN (r.g) : Nat) : Int)) rfl rfl (by kernel_rfl) (by kernel_rfl) (by kernel_rfl) (fun _ _ _ h => h) (yldV [(23, .int .u32 ((wN (r.g) : Nat) : Int))] (by kernel_rfl) rfl (by kernel_rfl) ?_) hH0 ?_
                  · intro w hSw; go_simp
                  dsimp only [List.set_cons_zero, List.set_cons_succ]
                  refine takeD (i := 16) (d := 198) (v := .int .u32 ((wN (~~~r.e &&& r.g) : Nat) : Int)) rfl rfl (by kernel_rfl) (by kernel_rfl) (by kernel_rfl) (fun _ _ _ h => h) (yldV [(196, .int .u32 ((wN (~~~r.e) : Nat) : Int)), (197, .int .u32 ((wN (r.g) : Nat) : Int))] (by kernel_rfl) rfl (by kernel_rfl) ?_) hH0 ?_
                  · intro w hSw; go_simp; exact w_and (~~~r.e) (r.g)
                  dsimp only [List.set_cons_zero, List.set_cons_succ]
                  refine takeD (i := 17) (d := 199) (v := .int .u32 ((wN ((r.e &&& r.f) ^^^ (~~~r.e &&& r.g)) : Nat) : Int)) rfl rfl (by kernel_rfl) (by kernel_rfl) (by kernel_rfl) (fun _ _ _ h => h) (yldV [(194, .int .u32 ((wN (r.e &&& r.f) : Nat) : Int)), (198, .int .u32 ((wN (~~~r.e &&& r.g) : Nat) : Int))] (by kernel_rfl) rfl (by kernel_rfl) ?_) hH0 ?_
                  · intro w hSw; go_simp; exact w_xor (r.e &&& r.f) (~~~r.e &&& r.g)
                  dsimp only [List.set_cons_zero, List.set_cons_succ]
                  refine takeD (i := 19) (d := 201) (v := .slice (some ⟨ko, kof, none⟩) 64 kc) rfl rfl (by kernel_rfl) (by kernel_rfl) (by kernel_rfl) (fun _ _ _ h => h) (yldV [(1, .slice (some ⟨ko, kof, none⟩) 64 kc)] (by kernel_rfl) rfl (by kernel_rfl) ?_) hH0 ?_
                  · intro w hSw; go_simp
                  dsimp only [List.set_cons_zero, List.set_cons_succ]
                  refine takeD (i := 20) (d := 202) (v := .int .i64 ((i : Int))) rfl rfl (by kernel_rfl) (by kernel_rfl) (by kernel_rfl) (fun _ _ _ h => h) (yldV [(25, .int .i64 ((i : Int)))] (by kernel_rfl) rfl (by kernel_rfl) ?_) hH0 ?_
                  · intro w hSw; go_simp
                  dsimp only [List.set_cons_zero, List.set_cons_succ]
                  refine takeD (i := 21) (d := 203) (v := .pointer (some ⟨ko, kof + i, none⟩)) rfl rfl (by kernel_rfl) (by kernel_rfl) (by kernel_rfl) (fun _ _ _ h => h) (yldV [(201, .slice (some ⟨ko, kof, none⟩) 64 kc), (202, .int .i64 ((i : Int)))] (by kernel_rfl) rfl (by kernel_rfl) ?_) hH0 ?_
                  · intro w hSw; first | (go_simp; done) | (go_simp; intro hh; exfalso; omega) | (go_simp; rfl)
                  dsimp only [List.set_cons_zero, List.set_cons_succ]
                  refine takeD (i := 22) (d := 204) (v := .int .u32 ((wN (kk) : Nat) : Int)) rfl rfl (by kernel_rfl) (by kernel_rfl) (by kernel_rfl) (fun _ _ _ h => h) (yldV [(203, .pointer (some ⟨ko, kof + i, none⟩))] (by kernel_rfl) rfl (by kernel_rfl) ?_) hH0 ?_
                  · intro w hSw; obtain ⟨q0, q1⟩ := hSw; go_simp
                  dsimp only [List.set_cons_zero, List.set_cons_succ]
                  refine takeD (i := 24) (d := 206) (v := .slice (some ⟨wg, 0, none⟩) 64 wc) rfl rfl (by kernel_rfl) (by kernel_rfl) (by kernel_rfl) (fun _ _ _ h => h) (yldV [(12, .slice (some ⟨wg, 0, none⟩) 64 wc)] (by kernel_rfl) rfl (by kernel_rfl) ?_) hH0 ?_
                  · intro w hSw; go_simp
                  dsimp only [List.set_cons_zero, List.set_cons_succ]
                  refine takeD (i := 25) (d := 207) (v := .int .i64 ((i : Int))) rfl rfl (by kernel_rfl) (by kernel_rfl) (by kernel_rfl) (fun _ _ _ h => h) (yldV [(25, .int .i64 ((i : Int)))] (by kernel_rfl) rfl (by kernel_rfl) ?_) hH0 ?_
                  · intro w hSw; go_simp
                  dsimp only [List.set_cons_zero, List.set_cons_succ]
                  refine takeD (i := 26) (d := 208) (v := .pointer (some ⟨wg, i, none⟩)) rfl rfl (by kernel_rfl) (by kernel_rfl) (by kernel_rfl) (fun _ _ _ h => h) (yldV [(206, .slice (some ⟨wg, 0, none⟩) 64 wc), (207, .int .i64 ((i : Int)))] (by kernel_rfl) rfl (by kernel_rfl) ?_) hH0 ?_
                  · intro w hSw; first | (go_simp; done) | (go_simp; intro hh; exfalso; omega) | (go_simp; rfl)
                  dsimp only [List.set_cons_zero, List.set_cons_succ]
                  refine takeD (i := 27) (d := 209) (v := .int .u32 ((wN (ww) : Nat) : Int)) rfl rfl (by kernel_rfl) (by kernel_rfl) (by kernel_rfl) (fun _ _ _ h => h) (yldV [(208, .pointer (some ⟨wg, i, none⟩))] (by kernel_rfl) rfl (by kernel_rfl) ?_) hH0 ?_
                  · intro w hSw; obtain ⟨q0, q1⟩ := hSw; go_simp
                  dsimp only [List.set_cons_zero, List.set_cons_succ]
                  refine wpAnyH_ready (rs := [2]) (by kernel_rfl) (by simp) (AllReadyH.cons (o := _) rfl (fun K hK => ?_) AllReadyH.nil)
                  go_simp
                  refine (turn_any (r.e) 6 (by decide) (by decide) _).mono ?_
                  rintro en wz ⟨rfl, rfl⟩
                  unfold wV
                  refine hK.out _ _ ?_ (fun hH1 => ?_)
                  · exact hH0
                  clear hK K
                  refine wpAnyH_ready (rs := [4]) (by kernel_rfl) (by simp) (AllReadyH.cons (o := _) rfl (fun K hK => ?_) AllReadyH.nil)
                  go_simp
                  refine (turn_any (r.e) 11 (by decide) (by decide) _).mono ?_
                  rintro en wz ⟨rfl, rfl⟩
                  unfold wV
                  refine hK.out _ _ ?_ (fun hH2 => ?_)
                  · exact hH1
                  clear hK K
                  refine takeD (i := 5) (d := 187) (v := .int .u32 ((wN (rotr r.e 6 ^^^ rotr r.e 11) : Nat) : Int)) rfl rfl (by kernel_rfl) (by kernel_rfl) (by kernel_rfl) (fun _ _ _ h => h) (yldV [(184, .int .u32 ((wN (rotr (r.e) 6) : Nat) : Int)), (186, .int .u32 ((wN (rotr (r.e) 11) : Nat) : Int))] (by kernel_rfl) rfl (by kernel_rfl) ?_) hH2 ?_
                  · intro w hSw; go_simp; exact w_xor (rotr r.e 6) (rotr r.e 11)
                  dsimp only [List.set_cons_zero, List.set_cons_succ]
                  refine wpAnyH_ready (rs := [7]) (by kernel_rfl) (by simp) (AllReadyH.cons (o := _) rfl (fun K hK => ?_) AllReadyH.nil)
                  go_simp
                  refine (turn_any (r.e) 25 (by decide) (by decide) _).mono ?_
                  rintro en wz ⟨rfl, rfl⟩
                  unfold wV
                  refine hK.out _ _ ?_ (fun hH3 => ?_)
                  · exact hH2
                  clear hK K
                  refine takeD (i := 8) (d := 190) (v := .int .u32 ((wN (rotr r.e 6 ^^^ rotr r.e 11 ^^^ rotr r.e 25) : Nat) : Int)) rfl rfl (by kernel_rfl) (by kernel_rfl) (by kernel_rfl) (fun _ _ _ h => h) (yldV [(187, .int .u32 ((wN (rotr r.e 6 ^^^ rotr r.e 11) : Nat) : Int)), (189, .int .u32 ((wN (rotr (r.e) 25) : Nat) : Int))] (by kernel_rfl) rfl (by kernel_rfl) ?_) hH3 ?_
                  · intro w hSw; go_simp; exact w_xor (rotr r.e 6 ^^^ rotr r.e 11) (rotr r.e 25)
                  dsimp only [List.set_cons_zero, List.set_cons_succ]
                  refine takeD (i := 9) (d := 191) (v := .int .u32 ((wN (r.h + (rotr r.e 6 ^^^ rotr r.e 11 ^^^ rotr r.e 25)) : Nat) : Int)) rfl rfl (by kernel_rfl) (by kernel_rfl) (by kernel_rfl) (fun _ _ _ h => h) (yldV [(182, .int .u32 ((wN (r.h) : Nat) : Int)), (190, .int .u32 ((wN (rotr r.e 6 ^^^ rotr r.e 11 ^^^ rotr r.e 25) : Nat) : Int))] (by kernel_rfl) rfl (by kernel_rfl) ?_) hH3 ?_
                  · intro w hSw; go_simp; first | exact w_add (r.h) (rotr r.e 6 ^^^ rotr r.e 11 ^^^ rotr r.e 25) | exact w_add2 (r.h) (rotr r.e 6 ^^^ rotr r.e 11 ^^^ rotr r.e 25)
                  dsimp only [List.set_cons_zero, List.set_cons_succ]
                  refine takeD (i := 18) (d := 200) (v := .int .u32 ((wN (r.h + (rotr r.e 6 ^^^ rotr r.e 11 ^^^ rotr r.e 25) + ((r.e &&& r.f) ^^^ (~~~r.e &&& r.g))) : Nat) : Int)) rfl rfl (by kernel_rfl) (by kernel_rfl) (by kernel_rfl) (fun _ _ _ h => h) (yldV [(191, .int .u32 ((wN (r.h + (rotr r.e 6 ^^^ rotr r.e 11 ^^^ rotr r.e 25)) : Nat) : Int)), (199, .int .u32 ((wN ((r.e &&& r.f) ^^^ (~~~r.e &&& r.g)) : Nat) : Int))] (by kernel_rfl) rfl (by kernel_rfl) ?_) hH3 ?_
                  · intro w hSw; go_simp; first | exact w_add (r.h + (rotr r.e 6 ^^^ rotr r.e 11 ^^^ rotr r.e 25)) ((r.e &&& r.f) ^^^ (~~~r.e &&& r.g)) | exact w_add2 (r.h + (rotr r.e 6 ^^^ rotr r.e 11 ^^^ rotr r.e 25)) ((r.e &&& r.f) ^^^ (~~~r.e &&& r.g))
                  dsimp only [List.set_cons_zero, List.set_cons_succ]
                  refine takeD (i := 23) (d := 205) (v := .int .u32 ((wN (r.h + (rotr r.e 6 ^^^ rotr r.e 11 ^^^ rotr r.e 25) + ((r.e &&& r.f) ^^^ (~~~r.e &&& r.g)) + kk) : Nat) : Int)) rfl rfl (by kernel_rfl) (by kernel_rfl) (by kernel_rfl) (fun _ _ _ h => h) (yldV [(200, .int .u32 ((wN (r.h + (rotr r.e 6 ^^^ rotr r.e 11 ^^^ rotr r.e 25) + ((r.e &&& r.f) ^^^ (~~~r.e &&& r.g))) : Nat) : Int)), (204, .int .u32 ((wN (kk) : Nat) : Int))] (by kernel_rfl) rfl (by kernel_rfl) ?_) hH3 ?_
                  · intro w hSw; go_simp; first | exact w_add (r.h + (rotr r.e 6 ^^^ rotr r.e 11 ^^^ rotr r.e 25) + ((r.e &&& r.f) ^^^ (~~~r.e &&& r.g))) (kk) | exact w_add2 (r.h + (rotr r.e 6 ^^^ rotr r.e 11 ^^^ rotr r.e 25) + ((r.e &&& r.f) ^^^ (~~~r.e &&& r.g))) (kk)
                  dsimp only [List.set_cons_zero, List.set_cons_succ]
                  refine takeD (i := 28) (d := 210) (v := .int .u32 ((wN (px) : Nat) : Int)) rfl rfl (by kernel_rfl) (by kernel_rfl) (by kernel_rfl) (fun _ _ _ h => h) (yldV [(205, .int .u32 ((wN (r.h + (rotr r.e 6 ^^^ rotr r.e 11 ^^^ rotr r.e 25) + ((r.e &&& r.f) ^^^ (~~~r.e &&& r.g)) + kk) : Nat) : Int)), (209, .int .u32 ((wN (ww) : Nat) : Int))] (by kernel_rfl) rfl (by kernel_rfl) ?_) hH3 ?_
                  · intro w hSw; have hq := HPX.out; unfold H8.x at hq; rw [← ch_eq] at hq; rw [hq]; go_simp; first | exact w_add (r.h + (rotr r.e 6 ^^^ rotr r.e 11 ^^^ rotr r.e 25) + ((r.e &&& r.f) ^^^ (~~~r.e &&& r.g)) + kk) (ww) | exact w_add2 (r.h + (rotr r.e 6 ^^^ rotr r.e 11 ^^^ rotr r.e 25) + ((r.e &&& r.f) ^^^ (~~~r.e &&& r.g)) + kk) (ww)
                  dsimp only [List.set_cons_zero, List.set_cons_succ]
                  refine takeD (i := 29) (d := 26) (v := .int .u32 ((wN (px) : Nat) : Int)) rfl rfl (by kernel_rfl) (by kernel_rfl) (by kernel_rfl) (fun _ _ _ h => h) (yldV [(210, .int .u32 ((wN (px) : Nat) : Int))] (by kernel_rfl) rfl (by kernel_rfl) ?_) hH3 ?_
                  · intro w hSw; go_simp
                  dsimp only [List.set_cons_zero, List.set_cons_succ]
                  refine wpAnyH_done (by kernel_rfl) ?_ _
                  have H1 := H0.drew
                  clear H0 ck cw
                  generalize wr.drew = w6 at *
                  have e1 := w_xor (rotr r.a 2) (rotr r.a 13)
                  have e2 := w_xor (rotr r.a 2 ^^^ rotr r.a 13) (rotr r.a 22)
                  have e3 := w_and r.a r.b
                  have e4 := w_and r.a r.c
                  have e5 := w_and r.b r.c
                  have e6 := w_xor (r.a &&& r.b) (r.a &&& r.c)
                  have e7 := w_xor ((r.a &&& r.b) ^^^ (r.a &&& r.c)) (r.b &&& r.c)
                  have hpy : (rotr r.a 2 ^^^ rotr r.a 13 ^^^ rotr r.a 22) + ((r.a &&& r.b) ^^^ (r.a &&& r.c) ^^^ (r.b &&& r.c)) = py := by rw [maj_eq]; exact HPY.out.symm
                  have e8 := w_add (rotr r.a 2 ^^^ rotr r.a 13 ^^^ rotr r.a 22) ((r.a &&& r.b) ^^^ (r.a &&& r.c) ^^^ (r.b &&& r.c))
                  have e9 := w_add2 (rotr r.a 2 ^^^ rotr r.a 13 ^^^ rotr r.a 22) ((r.a &&& r.b) ^^^ (r.a &&& r.c) ^^^ (r.b &&& r.c))
                  rw [hpy] at e8 e9
                  clear hpy
                  have f1 := w_add r.d px
                  have f2 := w_add2 r.d px
                  have f3 := w_add px py
                  have f4 := w_add2 px py
                  have T2 := Lib.hid' (fun wq => turn_any r.a 2 (by decide) (by decide) wq)
                  have T13 := Lib.hid' (fun wq => turn_any r.a 13 (by decide) (by decide) wq)
                  have T22 := Lib.hid' (fun wq => turn_any r.a 22 (by decide) (by decide) wq)
                  unfold wV at T2 T13 T22
                  rw [show ((2 : Nat) : Int) = 2 from rfl] at T2
                  rw [show ((13 : Nat) : Int) = 13 from rfl] at T13
                  rw [show ((22 : Nat) : Int) = 22 from rfl] at T22
                  go_upto_region 30 with (first | (go_at_call 61; with_reducible (refine (T2.out _).mono ?_); rintro en wz ⟨rfl, rfl⟩) | (go_at_call 61; with_reducible (refine (T13.out _).mono ?_); rintro en wz ⟨rfl, rfl⟩) | (go_at_call 61; with_reducible (refine (T22.out _).mono ?_); rintro en wz ⟨rfl, rfl⟩))
                  go_wp2_with fail
                  go_roundw
                  case rel => exact ⟨i + 1, ⟨px + py, r.a, r.b, r.c, r.d + px, r.e, r.f, r.g⟩, by go_num, by omega, rfl, rfl, rfl, rfl, rfl, rfl, rfl, rfl, HNR2, H1⟩
                  case measure => simp [intOf]; omega
            have hlt' : (i : Int) < 64 := by omega
            by_cases h16 : i < 16
            · as_aux_lemma =>
              have h16' : (i : Int) < 16 := by omega
              have hbb := fun z (hz : z < 4) => HBY.out wr (H0.row 2 rfl) (64 * k + (4 * i + z)) (by omega)
              have x0 := hbb 0 (by omega); rw [Nat.add_zero] at x0; have x1 := hbb 1 (by omega); have x2 := hbb 2 (by omega); have x3 := hbb 3 (by omega)
              have HN1 := Lib.hid' (show sched bk (i + 1) = sched bk i ++ [word4 (B.getD (64 * k + 4 * i) 0) (B.getD (64 * k + (4 * i + 1)) 0) (B.getD (64 * k + (4 * i + 2)) 0) (B.getD (64 * k + (4 * i + 3)) 0)] by
                simp only [sched, nextW, if_pos h16, wordAt]
                rw [← HGD.out (4 * i) (by omega), ← HGD.out (4 * i + 1) (by omega), ← HGD.out (4 * i + 2) (by omega), ← HGD.out (4 * i + 3) (by omega)])
              have HX0 := Lib.hid' (fun (wq : World) (h : wq.ownsRow 0 5 1 (.slice (some ⟨ba, boff, none⟩) (64 * m) c) (64 * m) (byteVs B)) => And.intro (HBY.out wq h (64 * k + 4 * i) (by omega)) (And.intro (HBY.out wq h (64 * k + (4 * i + 1)) (by omega)) (And.intro (HBY.out wq h (64 * k + (4 * i + 2)) (by omega)) (HBY.out wq h (64 * k + (4 * i + 3)) (by omega)))))
              clear hbb
              generalize B.getD (64 * k + 4 * i) 0 = y0 at *
              generalize B.getD (64 * k + (4 * i + 1)) 0 = y1 at *
              generalize B.getD (64 * k + (4 * i + 2)) 0 = y2 at *
              generalize B.getD (64 * k + (4 * i + 3)) 0 = y3 at *
              have ha0 := HAT.out
              have ha1 : IntKind.i64.wrap (at' + 4 * (i : Int)) = at' + 4 * (i : Int) := IntWalk.i64_in _ (by omega)
              obtain ⟨pp, hpp⟩ : ∃ pp : Nat, pp = 64 * k + 4 * i := ⟨_, rfl⟩
              have hp2 : at' + 4 * (i : Int) = (pp : Int) := by omega
              rw [show 64 * k + 4 * i = pp from hpp.symm] at x0 HX0
              rw [show 64 * k + (4 * i + 1) = pp + 1 by omega] at x1 HX0
              rw [show 64 * k + (4 * i + 2) = pp + 2 by omega] at x2 HX0
              rw [show 64 * k + (4 * i + 3) = pp + 3 by omega] at x3 HX0
              have hpm : pp + 3 < 64 * m := by omega
              have HPP := Lib.hid' hpp
              have v0 : (pp : Int) < 64 * (m : Int) := by omega
              have v1 : (pp : Int) + 1 < 64 * (m : Int) := by omega
              have v2 : (pp : Int) + 2 < 64 * (m : Int) := by omega
              have v3 : (pp : Int) + 3 < 64 * (m : Int) := by omega
              have ha1' : IntKind.i64.wrap (at' + 4 * (i : Int)) = (pp : Int) := by rw [ha1, hp2]
              clear hpp ha0 ha1
              have HX4 := Lib.hid' (fun (wq : World) (h : wq.ownsRow 0 5 1 (.slice (some ⟨ba, boff, none⟩) (64 * m) c) (64 * m) (byteVs B)) =>
                show wq.cell? ⟨ba, boff + pp, none⟩ = some (.int .u8 ((y0.toNat : Nat) : Int)) ∧ wq.cell? ⟨ba, boff + (pp + 1), none⟩ = some (.int .u8 ((y1.toNat : Nat) : Int)) ∧ wq.cell? ⟨ba, boff + (pp + 2), none⟩ = some (.int .u8 ((y2.toNat : Nat) : Int)) ∧ wq.cell? ⟨ba, boff + (pp + 3), none⟩ = some (.int .u8 ((y3.toNat : Nat) : Int)) from HX0.out wq h)
              clear HX0
              go_upto_region 20 with fail
              refine startD (S := (fun w' => w'.cell? ⟨ba, boff + pp, none⟩ = some (.int .u8 ((y0.toNat : Nat) : Int)) ∧ w'.cell? ⟨ba, boff + (pp + 1), none⟩ = some (.int .u8 ((y1.toNat : Nat) : Int)) ∧ w'.cell? ⟨ba, boff + (pp + 2), none⟩ = some (.int .u8 ((y2.toNat : Nat) : Int)) ∧ w'.cell? ⟨ba, boff + (pp + 3), none⟩ = some (.int .u8 ((y3.toNat : Nat) : Int)))) (by kernel_rfl) ⟨x0, x1, x2, x3⟩ (fun hH0 => ?_)
              simp only [List.length_cons, List.length_nil, Nat.reduceAdd, List.replicate_succ, List.replicate_zero]
              refine takeD (i := 0) (d := 80) (v := .slice wa i wc) rfl rfl (by kernel_rfl) (by kernel_rfl) (by kernel_rfl) (fun _ _ _ h => h) (yldV [(12, .slice wa i wc)] (by kernel_rfl) rfl (by kernel_rfl) ?_) hH0 ?_
              · intro w hSw; go_simp
              dsimp only [List.set_cons_zero, List.set_cons_succ]
              refine takeD (i := 1) (d := 81) (v := .slice (some ⟨ba, boff, none⟩) (64 * m) c) rfl rfl (by kernel_rfl) (by kernel_rfl) (by kernel_rfl) (fun _ _ _ h => h) (yldV [(7, .slice (some ⟨ba, boff, none⟩) (64 * m) c)] (by kernel_rfl) rfl (by kernel_rfl) ?_) hH0 ?_
              · intro w hSw; go_simp
              dsimp only [List.set_cons_zero, List.set_cons_succ]
              refine takeD (i := 2) (d := 82) (v := .int .i64 ((pp : Int))) rfl rfl (by kernel_rfl) (by kernel_rfl) (by kernel_rfl) (fun _ _ _ h => h) (yldV [(14, .int .i64 ((pp : Int)))] (by kernel_rfl) rfl (by kernel_rfl) ?_) hH0 ?_
              · intro w hSw; go_simp
              dsimp only [List.set_cons_zero, List.set_cons_succ]
              refine takeD (i := 3) (d := 83) (v := .pointer (some ⟨ba, boff + pp, none⟩)) rfl rfl (by kernel_rfl) (by kernel_rfl) (by kernel_rfl) (fun _ _ _ h => h) (yldV [(81, .slice (some ⟨ba, boff, none⟩) (64 * m) c), (82, .int .i64 ((pp : Int)))] (by kernel_rfl) rfl (by kernel_rfl) ?_) hH0 ?_
              · intro w hSw; first | (go_simp; done) | (go_simp; intro hh; exfalso; omega) | (go_simp; rw [if_pos (by omega), show ((pp : Int)).toNat = pp by omega])
              dsimp only [List.set_cons_zero, List.set_cons_succ]
              refine takeD (i := 4) (d := 84) (v := .int .u8 ((y0.toNat : Nat) : Int)) rfl rfl (by kernel_rfl) (by kernel_rfl) (by kernel_rfl) (fun _ _ _ h => h) (yldV [(83, .pointer (some ⟨ba, boff + pp, none⟩))] (by kernel_rfl) rfl (by kernel_rfl) ?_) hH0 ?_
              · intro w hSw; obtain ⟨q0, q1, q2, q3⟩ := hSw; go_simp
              dsimp only [List.set_cons_zero, List.set_cons_succ]
              refine takeD (i := 5) (d := 85) (v := .int .u32 ((y0.toNat : Nat) : Int)) rfl rfl (by kernel_rfl) (by kernel_rfl) (by kernel_rfl) (fun _ _ _ h => h) (yldV [(84, .int .u8 ((y0.toNat : Nat) : Int))] (by kernel_rfl) rfl (by kernel_rfl) ?_) hH0 ?_
              · intro w hSw; have hy0 := y0.toNat_lt; first | (go_simp; done) | (go_simp; rw [IntKind.wrap_u32']; omega) | (go_simp; omega)
              dsimp only [List.set_cons_zero, List.set_cons_succ]
              refine takeD (i := 6) (d := 86) (v := .int .u32 ((y0.toNat * 16777216 : Nat) : Int)) rfl rfl (by kernel_rfl) (by kernel_rfl) (by kernel_rfl) (fun _ _ _ h => h) (yldV [(85, .int .u32 ((y0.toNat : Nat) : Int))] (by kernel_rfl) rfl (by kernel_rfl) ?_) hH0 ?_
              · intro w hSw; have hy0 := y0.toNat_lt; first | (go_simp; done) | (go_simp; rw [IntKind.wrap_u32']; omega) | (go_simp; omega)
              dsimp only [List.set_cons_zero, List.set_cons_succ]
              refine takeD (i := 7) (d := 87) (v := .slice (some ⟨ba, boff, none⟩) (64 * m) c) rfl rfl (by kernel_rfl) (by kernel_rfl) (by kernel_rfl) (fun _ _ _ h => h) (yldV [(7, .slice (some ⟨ba, boff, none⟩) (64 * m) c)] (by kernel_rfl) rfl (by kernel_rfl) ?_) hH0 ?_
              · intro w hSw; go_simp
              dsimp only [List.set_cons_zero, List.set_cons_succ]
              refine takeD (i := 8) (d := 88) (v := .int .i64 ((pp : Int))) rfl rfl (by kernel_rfl) (by kernel_rfl) (by kernel_rfl) (fun _ _ _ h => h) (yldV [(14, .int .i64 ((pp : Int)))] (by kernel_rfl) rfl (by kernel_rfl) ?_) hH0 ?_
              · intro w hSw; go_simp
              dsimp only [List.set_cons_zero, List.set_cons_succ]
              refine takeD (i := 9) (d := 89) (v := .int .i64 ((pp : Int) + 1)) rfl rfl (by kernel_rfl) (by kernel_rfl) (by kernel_rfl) (fun _ _ _ h => h) (yldV [(88, .int .i64 ((pp : Int)))] (by kernel_rfl) rfl (by kernel_rfl) ?_) hH0 ?_
              · intro w hSw; first | (go_simp; done) | (go_simp; exact IntWalk.i64_in _ (by omega)) | (go_simp; omega)
              dsimp only [List.set_cons_zero, List.set_cons_succ]
              refine takeD (i := 10) (d := 90) (v := .pointer (some ⟨ba, boff + (pp + 1), none⟩)) rfl rfl (by kernel_rfl) (by kernel_rfl) (by kernel_rfl) (fun _ _ _ h => h) (yldV [(87, .slice (some ⟨ba, boff, none⟩) (64 * m) c), (89, .int .i64 ((pp : Int) + 1))] (by kernel_rfl) rfl (by kernel_rfl) ?_) hH0 ?_
              · intro w hSw; first | (go_simp; done) | (go_simp; intro hh; exfalso; omega) | (go_simp; rw [if_pos (by omega), show ((pp : Int) + 1).toNat = pp + 1 by omega])
              dsimp only [List.set_cons_zero, List.set_cons_succ]
              refine takeD (i := 11) (d := 91) (v := .int .u8 ((y1.toNat : Nat) : Int)) rfl rfl (by kernel_rfl) (by kernel_rfl) (by kernel_rfl) (fun _ _ _ h => h) (yldV [(90, .pointer (some ⟨ba, boff + (pp + 1), none⟩))] (by kernel_rfl) rfl (by kernel_rfl) ?_) hH0 ?_
              · intro w hSw; obtain ⟨q0, q1, q2, q3⟩ := hSw; go_simp
              dsimp only [List.set_cons_zero, List.set_cons_succ]
              refine takeD (i := 12) (d := 92) (v := .int .u32 ((y1.toNat : Nat) : Int)) rfl rfl (by kernel_rfl) (by kernel_rfl) (by kernel_rfl) (fun _ _ _ h => h) (yldV [(91, .int .u8 ((y1.toNat : Nat) : Int))] (by kernel_rfl) rfl (by kernel_rfl) ?_) hH0 ?_
              · intro w hSw; have hy1 := y1.toNat_lt; first | (go_simp; done) | (go_simp; rw [IntKind.wrap_u32']; omega) | (go_simp; omega)
              dsimp only [List.set_cons_zero, List.set_cons_succ]
              refine takeD (i := 13) (d := 93) (v := .int .u32 ((y1.toNat * 65536 : Nat) : Int)) rfl rfl (by kernel_rfl) (by kernel_rfl) (by kernel_rfl) (fun _ _ _ h => h) (yldV [(92, .int .u32 ((y1.toNat : Nat) : Int))] (by kernel_rfl) rfl (by kernel_rfl) ?_) hH0 ?_
              · intro w hSw; have hy1 := y1.toNat_lt; first | (go_simp; done) | (go_simp; rw [IntKind.wrap_u32']; omega) | (go_simp; omega)
              dsimp only [List.set_cons_zero, List.set_cons_succ]
              refine takeD (i := 14) (d := 94) (v := .int .u32 ((y0.toNat * 16777216 + y1.toNat * 65536 : Nat) : Int)) rfl rfl (by kernel_rfl) (by kernel_rfl) (by kernel_rfl) (fun _ _ _ h => h) (yldV [(86, .int .u32 ((y0.toNat * 16777216 : Nat) : Int)), (93, .int .u32 ((y1.toNat * 65536 : Nat) : Int))] (by kernel_rfl) rfl (by kernel_rfl) ?_) hH0 ?_
              · intro w hSw; have hy0 := y0.toNat_lt; have hy1 := y1.toNat_lt; first | (go_simp; done) | (go_simp; rw [IntKind.wrap_u32']; omega) | (go_simp; omega)
              dsimp only [List.set_cons_zero, List.set_cons_succ]
              refine takeD (i := 15) (d := 95) (v := .slice (some ⟨ba, boff, none⟩) (64 * m) c) rfl rfl (by kernel_rfl) (by kernel_rfl) (by kernel_rfl) (fun _ _ _ h => h) (yldV [(7, .slice (some ⟨ba, boff, none⟩) (64 * m) c)] (by kernel_rfl) rfl (by kernel_rfl) ?_) hH0 ?_
              · intro w hSw; go_simp
              dsimp only [List.set_cons_zero, List.set_cons_succ]
              refine takeD (i := 16) (d := 96) (v := .int .i64 ((pp : Int))) rfl rfl (by kernel_rfl) (by kernel_rfl) (by kernel_rfl) (fun _ _ _ h => h) (yldV [(14, .int .i64 ((pp : Int)))] (by kernel_rfl) rfl (by kernel_rfl) ?_) hH0 ?_
              · intro w hSw; go_simp
              dsimp only [List.set_cons_zero, List.set_cons_succ]
              refine takeD (i := 17) (d := 97) (v := .int .i64 ((pp : Int) + 2)) rfl rfl (by kernel_rfl) (by kernel_rfl) (by kernel_rfl) (fun _ _ _ h => h) (yldV [(96, .int .i64 ((pp : Int)))] (by kernel_rfl) rfl (by kernel_rfl) ?_) hH0 ?_
              · intro w hSw; first | (go_simp; done) | (go_simp; exact IntWalk.i64_in _ (by omega)) | (go_simp; omega)
              dsimp only [List.set_cons_zero, List.set_cons_succ]
              refine takeD (i := 18) (d := 98) (v := .pointer (some ⟨ba, boff + (pp + 2), none⟩)) rfl rfl (by kernel_rfl) (by kernel_rfl) (by kernel_rfl) (fun _ _ _ h => h) (yldV [(95, .slice (some ⟨ba, boff, none⟩) (64 * m) c), (97, .int .i64 ((pp : Int) + 2))] (by kernel_rfl) rfl (by kernel_rfl) ?_) hH0 ?_
              · intro w hSw; first | (go_simp; done) | (go_simp; intro hh; exfalso; omega) | (go_simp; rw [if_pos (by omega), show ((pp : Int) + 2).toNat = pp + 2 by omega])
              dsimp only [List.set_cons_zero, List.set_cons_succ]
              refine takeD (i := 19) (d := 99) (v := .int .u8 ((y2.toNat : Nat) : Int)) rfl rfl (by kernel_rfl) (by kernel_rfl) (by kernel_rfl) (fun _ _ _ h => h) (yldV [(98, .pointer (some ⟨ba, boff + (pp + 2), none⟩))] (by kernel_rfl) rfl (by kernel_rfl) ?_) hH0 ?_
              · intro w hSw; obtain ⟨q0, q1, q2, q3⟩ := hSw; go_simp
              dsimp only [List.set_cons_zero, List.set_cons_succ]
              refine takeD (i := 20) (d := 100) (v := .int .u32 ((y2.toNat : Nat) : Int)) rfl rfl (by kernel_rfl) (by kernel_rfl) (by kernel_rfl) (fun _ _ _ h => h) (yldV [(99, .int .u8 ((y2.toNat : Nat) : Int))] (by kernel_rfl) rfl (by kernel_rfl) ?_) hH0 ?_
              · intro w hSw; have hy2 := y2.toNat_lt; first | (go_simp; done) | (go_simp; rw [IntKind.wrap_u32']; omega) | (go_simp; omega)
              dsimp only [List.set_cons_zero, List.set_cons_succ]
              refine takeD (i := 21) (d := 101) (v := .int .u32 ((y2.toNat * 256 : Nat) : Int)) rfl rfl (by kernel_rfl) (by kernel_rfl) (by kernel_rfl) (fun _ _ _ h => h) (yldV [(100, .int .u32 ((y2.toNat : Nat) : Int))] (by kernel_rfl) rfl (by kernel_rfl) ?_) hH0 ?_
              · intro w hSw; have hy2 := y2.toNat_lt; first | (go_simp; done) | (go_simp; rw [IntKind.wrap_u32']; omega) | (go_simp; omega)
              dsimp only [List.set_cons_zero, List.set_cons_succ]
              refine takeD (i := 22) (d := 102) (v := .int .u32 ((y0.toNat * 16777216 + y1.toNat * 65536 + y2.toNat * 256 : Nat) : Int)) rfl rfl (by kernel_rfl) (by kernel_rfl) (by kernel_rfl) (fun _ _ _ h => h) (yldV [(94, .int .u32 ((y0.toNat * 16777216 + y1.toNat * 65536 : Nat) : Int)), (101, .int .u32 ((y2.toNat * 256 : Nat) : Int))] (by kernel_rfl) rfl (by kernel_rfl) ?_) hH0 ?_
              · intro w hSw; have hy0 := y0.toNat_lt; have hy1 := y1.toNat_lt; have hy2 := y2.toNat_lt; first | (go_simp; done) | (go_simp; rw [IntKind.wrap_u32']; omega) | (go_simp; omega)
              dsimp only [List.set_cons_zero, List.set_cons_succ]
              refine takeD (i := 23) (d := 103) (v := .slice (some ⟨ba, boff, none⟩) (64 * m) c) rfl rfl (by kernel_rfl) (by kernel_rfl) (by kernel_rfl) (fun _ _ _ h => h) (yldV [(7, .slice (some ⟨ba, boff, none⟩) (64 * m) c)] (by kernel_rfl) rfl (by kernel_rfl) ?_) hH0 ?_
              · intro w hSw; go_simp
              dsimp only [List.set_cons_zero, List.set_cons_succ]
              refine takeD (i := 24) (d := 104) (v := .int .i64 ((pp : Int))) rfl rfl (by kernel_rfl) (by kernel_rfl) (by kernel_rfl) (fun _ _ _ h => h) (yldV [(14, .int .i64 ((pp : Int)))] (by kernel_rfl) rfl (by kernel_rfl) ?_) hH0 ?_
              · intro w hSw; go_simp
              dsimp only [List.set_cons_zero, List.set_cons_succ]
              refine takeD (i := 25) (d := 105) (v := .int .i64 ((pp : Int) + 3)) rfl rfl (by kernel_rfl) (by kernel_rfl) (by kernel_rfl) (fun _ _ _ h => h) (yldV [(104, .int .i64 ((pp : Int)))] (by kernel_rfl) rfl (by kernel_rfl) ?_) hH0 ?_
              · intro w hSw; first | (go_simp; done) | (go_simp; exact IntWalk.i64_in _ (by omega)) | (go_simp; omega)
              dsimp only [List.set_cons_zero, List.set_cons_succ]
              refine takeD (i := 26) (d := 106) (v := .pointer (some ⟨ba, boff + (pp + 3), none⟩)) rfl rfl (by kernel_rfl) (by kernel_rfl) (by kernel_rfl) (fun _ _ _ h => h) (yldV [(103, .slice (some ⟨ba, boff, none⟩) (64 * m) c), (105, .int .i64 ((pp : Int) + 3))] (by kernel_rfl) rfl (by kernel_rfl) ?_) hH0 ?_
              · intro w hSw; first | (go_simp; done) | (go_simp; intro hh; exfalso; omega) | (go_simp; rw [if_pos (by omega), show ((pp : Int) + 3).toNat = pp + 3 by omega])
              dsimp only [List.set_cons_zero, List.set_cons_succ]
              refine takeD (i := 27) (d := 107) (v := .int .u8 ((y3.toNat : Nat) : Int)) rfl rfl (by kernel_rfl) (by kernel_rfl) (by kernel_rfl) (fun _ _ _ h => h) (yldV [(106, .pointer (some ⟨ba, boff + (pp + 3), none⟩))] (by kernel_rfl) rfl (by kernel_rfl) ?_) hH0 ?_
              · intro w hSw; obtain ⟨q0, q1, q2, q3⟩ := hSw; go_simp
              dsimp only [List.set_cons_zero, List.set_cons_succ]
              refine takeD (i := 28) (d := 108) (v := .int .u32 ((y3.toNat : Nat) : Int)) rfl rfl (by kernel_rfl) (by kernel_rfl) (by kernel_rfl) (fun _ _ _ h => h) (yldV [(107, .int .u8 ((y3.toNat : Nat) : Int))] (by kernel_rfl) rfl (by kernel_rfl) ?_) hH0 ?_
              · intro w hSw; have hy3 := y3.toNat_lt; first | (go_simp; done) | (go_simp; rw [IntKind.wrap_u32']; omega) | (go_simp; omega)
              dsimp only [List.set_cons_zero, List.set_cons_succ]
              refine takeD (i := 29) (d := 109) (v := .int .u32 ((wN (word4 y0 y1 y2 y3) : Nat) : Int)) rfl rfl (by kernel_rfl) (by kernel_rfl) (by kernel_rfl) (fun _ _ _ h => h) (yldV [(102, .int .u32 ((y0.toNat * 16777216 + y1.toNat * 65536 + y2.toNat * 256 : Nat) : Int)), (108, .int .u32 ((y3.toNat : Nat) : Int))] (by kernel_rfl) rfl (by kernel_rfl) ?_) hH0 ?_
              · intro w hSw; rw [word4_n]; have hy0 := y0.toNat_lt; have hy1 := y1.toNat_lt; have hy2 := y2.toNat_lt; have hy3 := y3.toNat_lt; first | (go_simp; done) | (go_simp; rw [IntKind.wrap_u32']; omega) | (go_simp; omega)
              dsimp only [List.set_cons_zero, List.set_cons_succ]
              refine wpAnyH_ready (rs := [30]) (by kernel_rfl) (by simp) (AllReadyH.cons (o := _) rfl (fun K hK => ?_) AllReadyH.nil)
              go_simp
              refine hK.out _ _ ?_ (fun hH1 => ?_)
              · exact HX4.out _ ((H0.allocX _).drew.row 2 rfl)
              clear hK K
              refine wpAnyH_ready (rs := [31]) (by kernel_rfl) (by simp) (AllReadyH.cons (o := _) rfl (fun K hK => ?_) AllReadyH.nil)
              refine Sep.appendStep (w := wr.drew) etWs rfl (.tmp 80) (.tmp 110) rfl [wV (word4 y0 y1 y2 y3)] rfl H0.drew 0 rfl rfl rfl (by simp [Value.oneCell', wV]) (by omega) ?_
              intro a9 c9 w9 HA
              refine hK.out _ _ ?_ (fun hH2 => ?_)
              · exact HX4.out _ (HA.row 2 rfl)
              clear hK K
              refine takeD (i := 32) (d := 12) (v := .slice a9 (i + 1) c9) rfl rfl (by kernel_rfl) (by kernel_rfl) (by kernel_rfl) (fun _ _ _ h => h) (yldV [(111, .slice a9 (i + 1) c9)] (by kernel_rfl) rfl (by kernel_rfl) ?_) hH2 ?_
              · intro w hSw; go_simp
              dsimp only [List.set_cons_zero, List.set_cons_succ]
              refine wpAnyH_done (by kernel_rfl) ?_ _
              have HA2 : Sep w NoF [.row 111 1 (.slice a9 (i + 1) c9) (i + 1) ((sched bk (i + 1)).map wV), .row 111 1 (.slice sa 8 sc) 8 q.vals, .row 5 1 (.slice (some ⟨ba, boff, none⟩) (64 * m) c) (64 * m) (byteVs B), .box w.heap.size zeroD 64] w9 := by rw [HN1.out, List.map_append]; exact HA
              clear HA H0
              go_wp2_with fail
              go_roundw
              case rel => exact ⟨i + 1, a9, c9, by go_num, by omega, rfl, HA2⟩
              case measure => simp [intOf]; omega
            · as_aux_lemma =>
              have h16' : ¬ (i : Int) < 16 := by omega
              obtain ⟨j2, hj2⟩ : ∃ j, i = j + 2 := ⟨i - 2, by omega⟩
              obtain ⟨j7, hj7⟩ : ∃ j, i = j + 7 := ⟨i - 7, by omega⟩
              obtain ⟨j15, hj15⟩ : ∃ j, i = j + 15 := ⟨i - 15, by omega⟩
              obtain ⟨j16, hj16⟩ : ∃ j, i = j + 16 := ⟨i - 16, by omega⟩
              obtain ⟨g, rfl⟩ := own_addr0 (H0.row 0 rfl) (by omega)
              have HX5 := Lib.hid' (fun (wq : World) (h : ∀ j u, ((sched bk i).map wV)[j]? = some u → wq.cell? ((⟨g, 0, none⟩ : Addr).add j) = some u) =>
                show wq.cell? ⟨g, j2, none⟩ = some (.int .u32 ((wN ((sched bk i).getD j2 0) : Nat) : Int)) ∧ wq.cell? ⟨g, j7, none⟩ = some (.int .u32 ((wN ((sched bk i).getD j7 0) : Nat) : Int)) ∧ wq.cell? ⟨g, j15, none⟩ = some (.int .u32 ((wN ((sched bk i).getD j15 0) : Nat) : Int)) ∧ wq.cell? ⟨g, j16, none⟩ = some (.int .u32 ((wN ((sched bk i).getD j16 0) : Nat) : Int)) from
                  ⟨keep_at h (by rw [HSL.out]; omega), keep_at h (by rw [HSL.out]; omega), keep_at h (by rw [HSL.out]; omega), keep_at h (by rw [HSL.out]; omega)⟩)
              have HX4 := Lib.hid' (fun (wq : World) (h : wq.ownsRow 0 111 1 (.slice (some ⟨g, 0, none⟩) i wc) i ((sched bk i).map wV)) => HX5.out wq (h.cells (g := g) rfl))
              have HN1 := Lib.hid' (show sched bk (i + 1) = sched bk i ++ [(sched bk i).getD j16 0 + (sched bk i).getD j7 0 + sg0 ((sched bk i).getD j15 0) + sg1 ((sched bk i).getD j2 0)] by
                simp only [sched, nextW, if_neg h16]; rw [show i - 16 = j16 by omega, show i - 7 = j7 by omega, show i - 15 = j15 by omega, show i - 2 = j2 by omega])
              have i2 : IntKind.i64.wrap ((i : Int) - 2) = (j2 : Int) := by rw [show (i : Int) - 2 = (j2 : Int) by omega]; exact IntWalk.i64_in _ (by omega)
              have i7 : IntKind.i64.wrap ((i : Int) - 7) = (j7 : Int) := by rw [show (i : Int) - 7 = (j7 : Int) by omega]; exact IntWalk.i64_in _ (by omega)
              have i15 : IntKind.i64.wrap ((i : Int) - 15) = (j15 : Int) := by rw [show (i : Int) - 15 = (j15 : Int) by omega]; exact IntWalk.i64_in _ (by omega)
              have i16 : IntKind.i64.wrap ((i : Int) - 16) = (j16 : Int) := by rw [show (i : Int) - 16 = (j16 : Int) by omega]; exact IntWalk.i64_in _ (by omega)
              have n2 : (i : Int) - 2 = (j2 : Int) := by omega
              have n15 : (i : Int) - 15 = (j15 : Int) := by omega
              generalize (sched bk i).getD j2 0 = p2 at *
              generalize (sched bk i).getD j7 0 = p7 at *
              generalize (sched bk i).getD j15 0 = p15 at *
              generalize (sched bk i).getD j16 0 = p16 at *
              have l2 : j2 < i := by omega
              have l7 : j7 < i := by omega
              have l15 : j15 < i := by omega
              have l16 : j16 < i := by omega
              obtain ⟨z2, z7, z15, z16⟩ := HX4.out wr (H0.row 0 rfl)
              have HH2 := Lib.hid' hj2
              have HH16 := Lib.hid' hj16
              clear hj2 hj7 hj15 hj16 h16
              go_upto_region 23 with fail
              refine startD (S := (fun w' => w'.cell? ⟨g, j2, none⟩ = some (.int .u32 ((wN (p2) : Nat) : Int)) ∧ w'.cell? ⟨g, j7, none⟩ = some (.int .u32 ((wN (p7) : Nat) : Int)) ∧ w'.cell? ⟨g, j15, none⟩ = some (.int .u32 ((wN (p15) : Nat) : Int)) ∧ w'.cell? ⟨g, j16, none⟩ = some (.int .u32 ((wN (p16) : Nat) : Int)))) (by kernel_rfl) ⟨z2, z7, z15, z16⟩ (fun hH0 => ?_)
              simp only [List.length_cons, List.length_nil, Nat.reduceAdd, List.replicate_succ, List.replicate_zero]
              refine takeD (i := 0) (d := 122) (v := .slice (some ⟨g, 0, none⟩) i wc) rfl rfl (by kernel_rfl) (by kernel_rfl) (by kernel_rfl) (fun _ _ _ h => h) (yldV [(12, .slice (some ⟨g, 0, none⟩) i wc)] (by kernel_rfl) rfl (by kernel_rfl) ?_) hH0 ?_
              · intro w hSw; go_simp
              dsimp only [List.set_cons_zero, List.set_cons_succ]
              refine takeD (i := 1) (d := 123) (v := .slice (some ⟨g, 0, none⟩) i wc) rfl rfl (by kernel_rfl) (by kernel_rfl) (by kernel_rfl) (fun _ _ _ h => h) (yldV [(12, .slice (some ⟨g, 0, none⟩) i wc)] (by kernel_rfl) rfl (by kernel_rfl) ?_) hH0 ?_
              · intro w hSw; go_simp
              dsimp only [List.set_cons_zero, List.set_cons_succ]
              refine takeD (i := 2) (d := 124) (v := .int .i64 ((i : Int))) rfl rfl (by kernel_rfl) (by kernel_rfl) (by kernel_rfl) (fun _ _ _ h => h) (yldV [(13, .int .i64 ((i : Int)))] (by kernel_rfl) rfl (by kernel_rfl) ?_) hH0 ?_
              · intro w hSw; go_simp
              dsimp only [List.set_cons_zero, List.set_cons_succ]
              refine takeD (i := 3) (d := 125) (v := .int .i64 ((j16 : Int))) rfl rfl (by kernel_rfl) (by kernel_rfl) (by kernel_rfl) (fun _ _ _ h => h) (yldV [(124, .int .i64 ((i : Int)))] (by kernel_rfl) rfl (by kernel_rfl) ?_) hH0 ?_
              · intro w hSw; first | (go_simp; done) | (go_simp; exact i16) | (go_simp; omega)
              dsimp only [List.set_cons_zero, List.set_cons_succ]
              refine takeD (i := 4) (d := 126) (v := .pointer (some ⟨g, j16, none⟩)) rfl rfl (by kernel_rfl) (by kernel_rfl) (by kernel_rfl) (fun _ _ _ h => h) (yldV [(123, .slice (some ⟨g, 0, none⟩) i wc), (125, .int .i64 ((j16 : Int)))] (by kernel_rfl) rfl (by kernel_rfl) ?_) hH0 ?_
              · intro w hSw; first | (go_simp; done) | (go_simp; intro hh; exfalso; omega) | (go_simp; omega) | (go_simp; rw [if_pos (by omega)]; rfl)
              dsimp only [List.set_cons_zero, List.set_cons_succ]
              refine takeD (i := 5) (d := 127) (v := .int .u32 ((wN (p16) : Nat) : Int)) rfl rfl (by kernel_rfl) (by kernel_rfl) (by kernel_rfl) (fun _ _ _ h => h) (yldV [(126, .pointer (some ⟨g, j16, none⟩))] (by kernel_rfl) rfl (by kernel_rfl) ?_) hH0 ?_
              · intro w hSw; obtain ⟨q0, q1, q2, q3⟩ := hSw; go_simp
              dsimp only [List.set_cons_zero, List.set_cons_succ]
              refine takeD (i := 6) (d := 128) (v := .slice (some ⟨g, 0, none⟩) i wc) rfl rfl (by kernel_rfl) (by kernel_rfl) (by kernel_rfl) (fun _ _ _ h => h) (yldV [(12, .slice (some ⟨g, 0, none⟩) i wc)] (by kernel_rfl) rfl (by kernel_rfl) ?_) hH0 ?_
              · intro w hSw; go_simp
              dsimp only [List.set_cons_zero, List.set_cons_succ]
              refine takeD (i := 7) (d := 129) (v := .int .i64 ((i : Int))) rfl rfl (by kernel_rfl) (by kernel_rfl) (by kernel_rfl) (fun _ _ _ h => h) (yldV [(13, .int .i64 ((i : Int)))] (by kernel_rfl) rfl (by kernel_rfl) ?_) hH0 ?_
              · intro w hSw; go_simp
              dsimp only [List.set_cons_zero, List.set_cons_succ]
              refine takeD (i := 8) (d := 130) (v := .int .i64 ((j7 : Int))) rfl rfl (by kernel_rfl) (by kernel_rfl) (by kernel_rfl) (fun _ _ _ h => h) (yldV [(129, .int .i64 ((i : Int)))] (by kernel_rfl) rfl (by kernel_rfl) ?_) hH0 ?_
              · intro w hSw; first | (go_simp; done) | (go_simp; exact i7) | (go_simp; omega)
              dsimp only [List.set_cons_zero, List.set_cons_succ]
              refine takeD (i := 9) (d := 131) (v := .pointer (some ⟨g, j7, none⟩)) rfl rfl (by kernel_rfl) (by kernel_rfl) (by kernel_rfl) (fun _ _ _ h => h) (yldV [(128, .slice (some ⟨g, 0, none⟩) i wc), (130, .int .i64 ((j7 : Int)))] (by kernel_rfl) rfl (by kernel_rfl) ?_) hH0 ?_
              · intro w hSw; first | (go_simp; done) | (go_simp; intro hh; exfalso; omega) | (go_simp; omega) | (go_simp; rw [if_pos (by omega)]; rfl)
              dsimp only [List.set_cons_zero, List.set_cons_succ]
              refine takeD (i := 10) (d := 132) (v := .int .u32 ((wN (p7) : Nat) : Int)) rfl rfl (by kernel_rfl) (by kernel_rfl) (by kernel_rfl) (fun _ _ _ h => h) (yldV [(131, .pointer (some ⟨g, j7, none⟩))] (by kernel_rfl) rfl (by kernel_rfl) ?_) hH0 ?_
              · intro w hSw; obtain ⟨q0, q1, q2, q3⟩ := hSw; go_simp
              dsimp only [List.set_cons_zero, List.set_cons_succ]
              refine takeD (i := 11) (d := 133) (v := .int .u32 ((wN (p16 + p7) : Nat) : Int)) rfl rfl (by kernel_rfl) (by kernel_rfl) (by kernel_rfl) (fun _ _ _ h => h) (yldV [(127, .int .u32 ((wN (p16) : Nat) : Int)), (132, .int .u32 ((wN (p7) : Nat) : Int))] (by kernel_rfl) rfl (by kernel_rfl) ?_) hH0 ?_
              · intro w hSw; go_simp; first | exact w_add (p16) (p7) | exact w_add2 (p16) (p7)
              dsimp only [List.set_cons_zero, List.set_cons_succ]
              refine takeD (i := 12) (d := 134) (v := .int .u32 ((wN (p15) : Nat) : Int)) rfl rfl (by kernel_rfl) (by kernel_rfl) (by kernel_rfl) (fun _ _ _ h => h) (yldV [(15, .int .u32 ((wN (p15) : Nat) : Int))] (by kernel_rfl) rfl (by kernel_rfl) ?_) hH0 ?_
              · intro w hSw; go_simp
              dsimp only [List.set_cons_zero, List.set_cons_succ]
              refine takeD (i := 14) (d := 136) (v := .int .u32 ((wN (p15) : Nat) : Int)) rfl rfl (by kernel_rfl) (by kernel_rfl) (by kernel_rfl) (fun _ _ _ h => h) (yldV [(15, .int .u32 ((wN (p15) : Nat) : Int))] (by kernel_rfl) rfl (by kernel_rfl) ?_) hH0 ?_
              · intro w hSw; go_simp
              dsimp only [List.set_cons_zero, List.set_cons_succ]
              refine takeD (i := 17) (d := 139) (v := .int .u32 ((wN (p15) : Nat) : Int)) rfl rfl (by kernel_rfl) (by kernel_rfl) (by kernel_rfl) (fun _ _ _ h => h) (yldV [(15, .int .u32 ((wN (p15) : Nat) : Int))] (by kernel_rfl) rfl (by kernel_rfl) ?_) hH0 ?_
              · intro w hSw; go_simp
              dsimp only [List.set_cons_zero, List.set_cons_succ]
              refine takeD (i := 18) (d := 140) (v := .int .u32 ((wN (p15 >>> 3) : Nat) : Int)) rfl rfl (by kernel_rfl) (by kernel_rfl) (by kernel_rfl) (fun _ _ _ h => h) (yldV [(139, .int .u32 ((wN (p15) : Nat) : Int))] (by kernel_rfl) rfl (by kernel_rfl) ?_) hH0 ?_
              · intro w hSw; go_simp; exact w_shr3 p15
              dsimp only [List.set_cons_zero, List.set_cons_succ]
              refine takeD (i := 21) (d := 143) (v := .int .u32 ((wN (p2) : Nat) : Int)) rfl rfl (by kernel_rfl) (by kernel_rfl) (by kernel_rfl) (fun _ _ _ h => h) (yldV [(16, .int .u32 ((wN (p2) : Nat) : Int))] (by kernel_rfl) rfl (by kernel_rfl) ?_) hH0 ?_
              · intro w hSw; go_simp
              dsimp only [List.set_cons_zero, List.set_cons_succ]
              refine takeD (i := 23) (d := 145) (v := .int .u32 ((wN (p2) : Nat) : Int)) rfl rfl (by kernel_rfl) (by kernel_rfl) (by kernel_rfl) (fun _ _ _ h => h) (yldV [(16, .int .u32 ((wN (p2) : Nat) : Int))] (by kernel_rfl) rfl (by kernel_rfl) ?_) hH0 ?_
              · intro w hSw; go_simp
              dsimp only [List.set_cons_zero, List.set_cons_succ]
              refine takeD (i := 26) (d := 148) (v := .int .u32 ((wN (p2) : Nat) : Int)) rfl rfl (by kernel_rfl) (by kernel_rfl) (by kernel_rfl) (fun _ _ _ h => h) (yldV [(16, .int .u32 ((wN (p2) : Nat) : Int))] (by kernel_rfl) rfl (by kernel_rfl) ?_) hH0 ?_
              · intro w hSw; go_simp
              dsimp only [List.set_cons_zero, List.set_cons_succ]
              refine takeD (i := 27) (d := 149) (v := .int .u32 ((wN (p2 >>> 10) : Nat) : Int)) rfl rfl (by kernel_rfl) (by kernel_rfl) (by kernel_rfl) (fun _ _ _ h => h) (yldV [(148, .int .u32 ((wN (p2) : Nat) : Int))] (by kernel_rfl) rfl (by kernel_rfl) ?_) hH0 ?_
              · intro w hSw; go_simp; exact w_shr10 p2
              dsimp only [List.set_cons_zero, List.set_cons_succ]
              refine wpAnyH_ready (rs := [13]) (by kernel_rfl) (by simp) (AllReadyH.cons (o := _) rfl (fun K hK => ?_) AllReadyH.nil)
              go_simp
              refine (turn_any (p15) 7 (by decide) (by decide) _).mono ?_
              rintro en wz ⟨rfl, rfl⟩
              unfold wV
              refine hK.out _ _ ?_ (fun hH1 => ?_)
              · exact hH0
              clear hK K
              refine wpAnyH_ready (rs := [15]) (by kernel_rfl) (by simp) (AllReadyH.cons (o := _) rfl (fun K hK => ?_) AllReadyH.nil)
              go_simp
              refine (turn_any (p15) 18 (by decide) (by decide) _).mono ?_
              rintro en wz ⟨rfl, rfl⟩
              unfold wV
              refine hK.out _ _ ?_ (fun hH2 => ?_)
              · exact hH1
              clear hK K
              refine takeD (i := 16) (d := 138) (v := .int .u32 ((wN (rotr p15 7 ^^^ rotr p15 18) : Nat) : Int)) rfl rfl (by kernel_rfl) (by kernel_rfl) (by kernel_rfl) (fun _ _ _ h => h) (yldV [(135, .int .u32 ((wN (rotr (p15) 7) : Nat) : Int)), (137, .int .u32 ((wN (rotr (p15) 18) : Nat) : Int))] (by kernel_rfl) rfl (by kernel_rfl) ?_) hH2 ?_
              · intro w hSw; go_simp; exact w_xor (rotr p15 7) (rotr p15 18)
              dsimp only [List.set_cons_zero, List.set_cons_succ]
              refine takeD (i := 19) (d := 141) (v := .int .u32 ((wN (sg0 p15) : Nat) : Int)) rfl rfl (by kernel_rfl) (by kernel_rfl) (by kernel_rfl) (fun _ _ _ h => h) (yldV [(138, .int .u32 ((wN (rotr p15 7 ^^^ rotr p15 18) : Nat) : Int)), (140, .int .u32 ((wN (p15 >>> 3) : Nat) : Int))] (by kernel_rfl) rfl (by kernel_rfl) ?_) hH2 ?_
              · intro w hSw; go_simp; exact w_xor (rotr p15 7 ^^^ rotr p15 18) (p15 >>> 3)
              dsimp only [List.set_cons_zero, List.set_cons_succ]
              refine takeD (i := 20) (d := 142) (v := .int .u32 ((wN (p16 + p7 + sg0 p15) : Nat) : Int)) rfl rfl (by kernel_rfl) (by kernel_rfl) (by kernel_rfl) (fun _ _ _ h => h) (yldV [(133, .int .u32 ((wN (p16 + p7) : Nat) : Int)), (141, .int .u32 ((wN (sg0 p15) : Nat) : Int))] (by kernel_rfl) rfl (by kernel_rfl) ?_) hH2 ?_
              · intro w hSw; go_simp; first | exact w_add (p16 + p7) (sg0 p15) | exact w_add2 (p16 + p7) (sg0 p15)
              dsimp only [List.set_cons_zero, List.set_cons_succ]
              refine wpAnyH_ready (rs := [22]) (by kernel_rfl) (by simp) (AllReadyH.cons (o := _) rfl (fun K hK => ?_) AllReadyH.nil)
              go_simp
              refine (turn_any (p2) 17 (by decide) (by decide) _).mono ?_
              rintro en wz ⟨rfl, rfl⟩
              unfold wV
              refine hK.out _ _ ?_ (fun hH3 => ?_)
              · exact hH2
              clear hK K
              refine wpAnyH_ready (rs := [24]) (by kernel_rfl) (by simp) (AllReadyH.cons (o := _) rfl (fun K hK => ?_) AllReadyH.nil)
              go_simp
              refine (turn_any (p2) 19 (by decide) (by decide) _).mono ?_
              rintro en wz ⟨rfl, rfl⟩
              unfold wV
              refine hK.out _ _ ?_ (fun hH4 => ?_)
              · exact hH3
              clear hK K
              refine takeD (i := 25) (d := 147) (v := .int .u32 ((wN (rotr p2 17 ^^^ rotr p2 19) : Nat) : Int)) rfl rfl (by kernel_rfl) (by kernel_rfl) (by kernel_rfl) (fun _ _ _ h => h) (yldV [(144, .int .u32 ((wN (rotr (p2) 17) : Nat) : Int)), (146, .int .u32 ((wN (rotr (p2) 19) : Nat) : Int))] (by kernel_rfl) rfl (by kernel_rfl) ?_) hH4 ?_
              · intro w hSw; go_simp; exact w_xor (rotr p2 17) (rotr p2 19)
              dsimp only [List.set_cons_zero, List.set_cons_succ]
              refine takeD (i := 28) (d := 150) (v := .int .u32 ((wN (sg1 p2) : Nat) : Int)) rfl rfl (by kernel_rfl) (by kernel_rfl) (by kernel_rfl) (fun _ _ _ h => h) (yldV [(147, .int .u32 ((wN (rotr p2 17 ^^^ rotr p2 19) : Nat) : Int)), (149, .int .u32 ((wN (p2 >>> 10) : Nat) : Int))] (by kernel_rfl) rfl (by kernel_rfl) ?_) hH4 ?_
              · intro w hSw; go_simp; exact w_xor (rotr p2 17 ^^^ rotr p2 19) (p2 >>> 10)
              dsimp only [List.set_cons_zero, List.set_cons_succ]
              refine takeD (i := 29) (d := 151) (v := .int .u32 ((wN (p16 + p7 + sg0 p15 + sg1 p2) : Nat) : Int)) rfl rfl (by kernel_rfl) (by kernel_rfl) (by kernel_rfl) (fun _ _ _ h => h) (yldV [(142, .int .u32 ((wN (p16 + p7 + sg0 p15) : Nat) : Int)), (150, .int .u32 ((wN (sg1 p2) : Nat) : Int))] (by kernel_rfl) rfl (by kernel_rfl) ?_) hH4 ?_
              · intro w hSw; go_simp; first | exact w_add (p16 + p7 + sg0 p15) (sg1 p2) | exact w_add2 (p16 + p7 + sg0 p15) (sg1 p2)
              dsimp only [List.set_cons_zero, List.set_cons_succ]
              refine wpAnyH_ready (rs := [30]) (by kernel_rfl) (by simp) (AllReadyH.cons (o := _) rfl (fun K hK => ?_) AllReadyH.nil)
              go_simp
              refine hK.out _ _ ?_ (fun hH5 => ?_)
              · exact HX4.out _ ((H0.allocX _).drew.row 0 rfl)
              clear hK K
              refine wpAnyH_ready (rs := [31]) (by kernel_rfl) (by simp) (AllReadyH.cons (o := _) rfl (fun K hK => ?_) AllReadyH.nil)
              refine Sep.appendKeep etWs rfl (.tmp 122) (.tmp 152) rfl (H0.allocX _).drew 0 rfl rfl wr.heap.size [wV (p16 + p7 + sg0 p15 + sg1 p2)] rfl (by intro j u hu; exact alloc_one_cell wr _ _ j u hu) rfl (by simp [Value.oneCell', wV]) (by omega) ?_
              intro a9 c9 w9 HA hKP
              refine hK.out _ _ ?_ (fun hH6 => ?_)
              · exact HX5.out _ hKP
              clear hK K
              refine takeD (i := 32) (d := 12) (v := .slice a9 (i + 1) c9) rfl rfl (by kernel_rfl) (by kernel_rfl) (by kernel_rfl) (fun _ _ _ h => h) (yldV [(153, .slice a9 (i + 1) c9)] (by kernel_rfl) rfl (by kernel_rfl) ?_) hH6 ?_
              · intro w hSw; go_simp
              dsimp only [List.set_cons_zero, List.set_cons_succ]
              refine wpAnyH_done (by kernel_rfl) ?_ _
              have HA2 : Sep w NoF [.row 111 1 (.slice a9 (i + 1) c9) (i + 1) ((sched bk (i + 1)).map wV), .row 111 1 (.slice sa 8 sc) 8 q.vals, .row 5 1 (.slice (some ⟨ba, boff, none⟩) (64 * m) c) (64 * m) (byteVs B), .box w.heap.size zeroD 64] w9 := by rw [HN1.out, List.map_append]; exact HA
              clear HA H0
              go_wp2_with fail
              go_roundw
              case rel => exact ⟨i + 1, a9, c9, by go_num, by omega, rfl, HA2⟩
              case measure => simp [intOf]; omega

end Go.Proofs.YtinbcehlpfnlaaaGreatDoor
