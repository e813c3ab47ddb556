/- Proved here: a part of the proof (33 of 33). -/
import Derived.Test.YtcpkeddgkpjioaaGreatDoorA26
import Derived.Test.YtcpkeddgkpjioaaGreatDoorA32
import Derived.Test.YtcpkeddgkpjioaaGreatDoorA30
set_option linter.unusedSimpArgs false
set_option linter.unusedVariables false
set_option maxRecDepth 100000
namespace Go.Proofs.YtcpkeddgkpjioaaGreatDoor
namespace SL
open DK SH SQ
/-- an act with a unit that has never failed: an act that has an error leaves no file -/
theorem Fine.act2 {r : Int} {k : Nat} {u : U} {x : Un} (h : Fine r k u x) (hk : k < 512) (hr : (200 * k + 200 : Nat) ≤ r) (a : Ac) :
  ∃ S D S' D', x = ⟨D, some S⟩ ∧ doS S D a = ((apU u a).1, if (apU u a).1 = 0 then (apU u a).2.1 else 0, S', D') ∧ Fine r (if (apU u a).1 = 0 then k + 1 else k) (if (apU u a).1 = 0 then (apU u a).2.2 else u) ⟨D', some S'⟩ := by
 by_cases hx : (apU u a).1 = 0
 ·rw [if_pos hx, if_pos hx, if_pos hx]
  have := h.act hk hr a
  rw [if_pos hx, if_pos hx] at this
  exact this
 ·obtain ⟨n, L, rfl, h2, h3, h4, h5, h6⟩ := h
  refine ⟨⟨u, n, false⟩, ⟨r, L, L, [], -1, false⟩, ⟨u, n, false⟩, ⟨r, L, L, [], -1, false⟩, rfl, ?_, ?_⟩
  ·rw [if_neg hx]
   show doS ⟨u, n, false⟩ _ a = _
   unfold doS
   rw [if_neg (by simp), if_pos hx]
  ·rw [if_neg hx, if_neg hx]
   exact ⟨n, L, rfl, h2, h3, h4, h5, h6⟩
theorem write_e (u : U) (e a : Int) (d : List UInt8) : (u.write e a d).2.e = u.e := by unfold U.write; (repeat' split) <;> rfl
theorem fill_e (u : U) (e a : Int) : (u.fill e a).2.e = u.e := by unfold U.fill; (repeat' split) <;> rfl
theorem trim_e (u : U) (e a : Int) : (u.trim e a).2.e = u.e := by unfold U.trim; (repeat' split) <;> rfl
theorem ucut_e (u : U) (e a : Int) : (u.cut e a).2.2.e = u.e := by unfold U.cut; (repeat' split) <;> rfl
theorem ap_e {u : U} {x : Ac} (h : x.k ≠ 1) : (apU u x).2.2.e = u.e := by
 unfold apU
 split
 ·rfl
 ·split
  ·exact write_e _ _ _ _
  ·split
   ·exact fill_e _ _ _
   ·split
    ·exact trim_e _ _ _
    ·exact ucut_e _ _ _
/-- no unit has ever failed; each has had at most k acts; their epochs are the projection's -/
structure Live (r : Int) (k : Nat) (M : Cl) : Prop where
 ok : M.ok
 e : M.q.e = M.p.e
 each : ∀ (i : Nat) (x : Un), M.us[i]? = some x → ∃ u, Fine r k u x ∧ u.e = M.p.e
theorem Live.mono {r : Int} {k m : Nat} {M : Cl} (h : Live r k M) (hk : k ≤ m) : Live r m M := ⟨h.ok, h.e, fun i x hx => by obtain ⟨u, h1, h2⟩ := h.each i x hx; exact ⟨u, h1.mono hk, h2⟩⟩
theorem Live.put {r : Int} {k m : Nat} {M : Cl} (h : Live r k M) (hk : k ≤ m) {u : Nat} {D : Dk} {S : Sf} (hok : (M.put u ⟨D, some S⟩).ok) {v : U} (hv : Fine r m v ⟨D, some S⟩) (he : v.e = M.p.e) : Live r m (M.put u ⟨D, some S⟩) := by
 refine ⟨hok, h.e, fun i x hx => ?_⟩
 have hx' : (M.us.set u ⟨D, some S⟩)[i]? = some x := hx
 rw [List.getElem?_set] at hx'
 split at hx'
 ·split at hx'
  ·simp only [Option.some.injEq] at hx'
   subst hx'
   exact ⟨v, hv, he⟩
  ·cases hx'
 ·exact (h.mono hk).each i x hx'
theorem Live.do2 {r : Int} {k : Nat} {M : Cl} (h : Live r k M) (hk : k < 512) (hr : (200 * k + 200 : Nat) ≤ r) (u : Nat) {x : Ac} (hx : x.k ≠ 1) : Live r (if (M.do u x).1 = 0 then k + 1 else k) (M.do u x).2.2 := by
 have hok := h.ok.do u x
 unfold Cl.do at hok ⊢
 split
 ·rename_i D S hu
  rw [hu] at hok
  simp only at hok
  obtain ⟨v, hF, he⟩ := h.each u _ hu
  obtain ⟨S1, D1, S2, D2, hy, e, hF2⟩ := hF.act2 hk hr x
  cases hy
  show Live r (if (doS S D x).1 = 0 then k + 1 else k) (M.put u ⟨(doS S D x).2.2.2, some (doS S D x).2.2.1⟩)
  rw [e] at hok ⊢
  simp only at hok ⊢
  refine h.put (by split <;> omega) hok hF2 ?_
  split
  ·rw [ap_e hx]; exact he
  ·exact he
 ·simp only
  rw [if_neg (by decide)]
  exact h
theorem Live.do {r : Int} {k : Nat} {M : Cl} (h : Live r k M) (hk : k < 512) (hr : (200 * k + 200 : Nat) ≤ r) (u : Nat) {x : Ac} (hx : x.k ≠ 1) : Live r (k + 1) (M.do u x).2.2 := (h.do2 hk hr u hx).mono (by split <;> omega)
theorem allC_live {r : Int} {f : Cl → Int → Nat × Cl} (hf : ∀ (k : Nat) (s : Cl) (u : Int), Live r k s → k < 512 → ((200 * k + 200 : Nat) : Int) ≤ r → Live r (k + 1) (f s u).2) : ∀ (l : List Int) (k : Nat) {s : Cl}, Live r k s → k + l.length ≤ 512 → ((200 * (k + l.length) : Nat) : Int) ≤ r → Live r (k + l.length) (allC f l s).2
 | [], k, s, h, _, _ => h
 | u :: l, k, s, h, hk, hr => by
  simp only [List.length_cons] at hk hr
  have h1 := hf k s u h (by omega) (by omega)
  unfold allC
  split
  ·exact h1.mono (by simp only [List.length_cons]; omega)
  ·have h2 := allC_live hf l (k + 1) h1 (by omega) (by omega)
   exact h2.mono (by simp only [List.length_cons]; omega)
theorem Live.raise {r : Int} {k : Nat} {M : Cl} (h : Live r k M) (n : Int) : Live r k (M.raise n).2 := by
 have hu := raise_up h.ok n
 exact ⟨hu.ok, by rw [hu.qe, hu.p]; exact h.e, h.each⟩
theorem putA_k (e a : Int) (x : C) : (putA e a x).k ≠ 1 := by unfold putA; split <;> simp
theorem Live.spread {r : Int} {k : Nat} {M : Cl} (h : Live r k M) (l : List Int) (hk : k + l.length ≤ 512) (hr : ((200 * (k + l.length) : Nat) : Int) ≤ r) (a : Int) (x : C) : Live r (k + l.length) (M.spread l a x).2 := by
 have h1 := allC_live (f := Cl.putS a x) (fun k s u h hk hr => by
  rw [show (Cl.putS a x s u).2 = (s.do u.toNat (putA s.p.e a x)).2.2 from putC_len _ _ _ _ _]
  exact h.do hk hr _ (putA_k _ _ _)) l k h hk hr
 unfold Cl.spread
 split
 ·exact h1
 ·exact h1.raise _
theorem Live.putAt {r : Int} {k n : Nat} {M : Cl} (h : Live r k M) (a : Int) (x : C) (hn : (M.home a).length ≤ n) (hk : k + n ≤ 512) (hr : ((200 * (k + n) : Nat) : Int) ≤ r) : Live r (k + n) (M.putAt a x).2 := by
 unfold Cl.putAt
 split
 ·exact h.mono (by omega)
 ·split
  ·exact h.mono (by omega)
  ·split
   ·exact h.mono (by omega)
   ·exact (h.spread _ (by omega) (by omega) _ _).mono (by omega)
theorem raise_n (M : Cl) (n : Int) : (M.raise n).2.q.n ≤ max M.q.n n := by
 show (M.q.raise M.p.e n).2.n ≤ _
 unfold Q.raise
 split
 ·show M.q.n ≤ _; omega
 ·show (if n ≤ M.q.n then M.q.n else n) ≤ _
  split <;> omega
theorem spread_n {M : Cl} (h : M.ok) (l : List Int) (a : Int) (x : C) : (M.spread l a x).2.q.n ≤ max M.q.n (a + 1) := by
 have h1 := allS_stay h (f := Cl.putS a x) (fun s u hs => ⟨hs.1.put _ _ _ _, putC_ok hs.2 _ _ _ _⟩) l
 unfold Cl.spread
 split
 ·rw [h1.1.q]; omega
 ·have := raise_n (allC (Cl.putS a x) l M).2 (a + 1)
  rw [h1.1.q] at this; exact this
theorem putAt_n {M : Cl} (h : M.ok) (a : Int) (x : C) : (M.putAt a x).2.q.n ≤ max M.q.n (a + 1) := by
 unfold Cl.putAt
 split
 ·show M.q.n ≤ _; omega
 ·split
  ·show M.q.n ≤ _; omega
  ·split
   ·show M.q.n ≤ _; omega
   ·exact spread_n h _ _ _
theorem Live.tail {r : Int} {k : Nat} {M : Cl} (h : Live r k M) : M.tail = (0, M.q.n) := by
 unfold Cl.tail Q.tail Q.asks
 rw [h.e]
 simp
theorem Live.read {r : Int} {k : Nat} {M : Cl} (h : Live r k M) {a : Int} (h0 : 0 ≤ a) (h1 : a ≤ 1048575) : (M.read a).1 = 0 := by
 obtain ⟨i, hi, _, hg⟩ := home_at (M := M) (pj_ok h.ok.proj) h0
 have hl := ((pj_ok h.ok.proj).each _ (List.mem_of_getElem? hg))
 have hin : inB a 1048575 = true := inB_iff.2 ⟨h0, h1⟩
 unfold Cl.read
 rw [if_neg (by rw [hin]; decide)]
 obtain ⟨v, hv⟩ : ∃ v, (M.home a).getLast? = some v := by
  cases hq : (M.home a).getLast? with
  | some v => exact ⟨v, rfl⟩
  | none => rw [List.getLast?_eq_none_iff] at hq; rw [hq] at hl; simp at hl
 rw [hv]
 have hm : v ∈ M.p.all := List.mem_flatten.2 ⟨_, List.mem_of_getElem? hg, List.mem_of_getLast? hv⟩
 have hb := h.ok.there v hm
 have hlt : v.toNat < M.us.length := by omega
 obtain ⟨u, hF, he⟩ := h.each v.toNat _ (List.getElem?_eq_getElem hlt)
 obtain ⟨S, D, hx, hr⟩ := hF.read
 show (M.readU v.toNat M.p.e a).1 = 0
 unfold Cl.readU
 rw [List.getElem?_eq_getElem hlt, hx]
 show (readS S D M.p.e a).1 = 0
 rw [hr]
 unfold U.read
 have : u.asks M.p.e (inR a 1048575) = 0 := by
  unfold U.asks U.cur inR
  rw [he]
  simp [h0, h1]
 rw [if_neg (by rw [this]; decide)]
theorem add_fine {r : Int} (h : 400 ≤ r ∧ r ≤ 1073741824) (M : Cl) : ∃ x, Fine r 1 u1 x ∧ Sd x.d ∧ M.add r = (0, { M with us := M.us ++ [x] }) := by
 obtain ⟨S, D, S', D', hx, e, hF⟩ := (Fine.new r).act (by decide) (by omega) sealA
 have ha : (apU U.new sealA).1 = 0 ∧ (apU U.new sealA).2.2 = u1 := ap1
 have hsd : Sd D' := by
  have h2 := Sd.doS (D := D) (S := S) (by have : newD r = D := congrArg Un.d hx; rw [← this]; exact Sd.new ⟨by omega, h.2⟩) sealA
  rw [e] at h2; exact h2
 rw [ha.1, ha.2] at hF
 simp only [if_pos] at hF
 refine ⟨_, hF, hsd, ?_⟩
 have hd : M.grow (newU r) = { M with us := M.us ++ [⟨D, some S⟩] } := by
  unfold Cl.grow newU
  rw [hx]
 unfold Cl.add
 rw [if_neg (by omega), hd]
 have hg : ({ M with us := M.us ++ [⟨D, some S⟩] } : Cl).us[M.us.length]? = some ⟨D, some S⟩ := by
  show (M.us ++ [⟨D, some S⟩])[M.us.length]? = _
  simp
 show (((({ M with us := M.us ++ [⟨D, some S⟩] } : Cl).do M.us.length sealA).1, (({ M with us := M.us ++ [⟨D, some S⟩] } : Cl).do M.us.length sealA).2.2) : Nat × Cl) = _
 rw [do_on (u := M.us.length) sealA hg, e]
 rw [ha.1]
 show ((0 : Nat), ({ M with us := M.us ++ [⟨D, some S⟩] } : Cl).put M.us.length _) = _
 unfold Cl.put
 simp
theorem addN_fine {r : Int} (h : 400 ≤ r ∧ r ≤ 1073741824) : ∀ (k : Nat) (M : Cl), ∃ xs : List Un, xs.length = k ∧ (∀ x ∈ xs, Fine r 1 u1 x ∧ Sd x.d) ∧ Cl.addN r k M = (0, { M with us := M.us ++ xs })
 | 0, M => ⟨[], rfl, by simp, by simp [Cl.addN]⟩
 | k + 1, M => by
  obtain ⟨x, h1, h2, e⟩ := add_fine h M
  obtain ⟨xs, h3, h4, e2⟩ := addN_fine h k { M with us := M.us ++ [x] }
  refine ⟨x :: xs, by simp [h3], fun y hy => ?_, ?_⟩
  ·rcases List.mem_cons.1 hy with rfl | hy
   ·exact ⟨h1, h2⟩
   ·exact h4 y hy
  ·rw [addN_step (by rw [e]), e, e2]
   simp
theorem new_live {r : Int} (h : 400 ≤ r ∧ r ≤ 1073741824) {n : Int} {X : List (List Int)} (hn : 1 ≤ n ∧ n ≤ 8) (hc : (⟨1, X⟩ : Pj).check = 0) (hu : ∀ u ∈ (⟨1, X⟩ : Pj).all, 0 ≤ u ∧ u < n) :
  ∃ M, newCl n r X = (0, M) ∧ Live r 1 M ∧ M.p = ⟨1, X⟩ ∧ M.q = ⟨1, 0⟩ ∧ M.us.length = n.toNat := by
 obtain ⟨xs, h1, h2, e⟩ := addN_fine h n.toNat (cl0 X)
 have e' : Cl.addN r n.toNat (cl0 X) = (0, ⟨xs, ⟨1, X⟩, ⟨0, 0⟩⟩) := by rw [e]; unfold cl0; simp
 refine ⟨⟨xs, ⟨1, X⟩, ⟨1, 0⟩⟩, ?_, ⟨⟨hc, by show xs.length ≤ 8; omega, fun u hm => ?_, ⟨by show (0 : Int) ≤ 1 ∧ (1 : Int) ≤ _; decide, by show (0 : Int) ≤ 0 ∧ (0 : Int) ≤ _; decide⟩, fun x hx => (h2 x hx).2⟩, rfl, fun i x hx => ⟨u1, (h2 x (List.mem_of_getElem? hx)).1, rfl⟩⟩, rfl, rfl, h1⟩
 ·unfold newCl
  rw [if_neg (by omega), if_neg (by rw [hc]; decide), if_neg, e']
  ·rfl
  ·rw [List.any_eq_true]
   rintro ⟨u, hm, hd⟩
   have := hu u ((unitsOf_mem u _).1 hm)
   have : n ≤ u := by simpa using hd
   omega
 ·have := hu u hm
  show 0 ≤ u ∧ u < (xs.length : Int)
  rw [h1]
  omega
end SL
end Go.Proofs.YtcpkeddgkpjioaaGreatDoor

namespace Go.Proofs.YtcpkeddgkpjioaaGreatDoor
namespace SL
open DK SH SQ
theorem nextR_live {r : Int} {k : Nat} {M : Cl} (h : Live r k M) : ∀ (K : Nat) (a : Int) (X : List C), 0 ≤ a → a + K ≤ 1048576 → ∃ Y : List C, nextR M K a X = (0, X ++ Y) ∧ Y.length ≤ K ∧ (∀ (j : Nat) (y : C), Y[j]? = some y → M.read (a + j) = (0, y) ∧ y.k ≠ 0) ∧ (Y.length < K → (M.read (a + Y.length)).2.k = 0)
 | 0, a, X, _, _ => ⟨[], by simp [nextR], Nat.le_refl _, by simp, by simp⟩
 | K + 1, a, X, h0, h1 => by
  have hr := h.read h0 (by omega)
  by_cases hk : (M.read a).2.k = 0
  ·exact ⟨[], by rw [nextR_end hr hk]; simp, by simp, by simp, fun _ => by simpa using hk⟩
  ·obtain ⟨Y, e, hl, hy, hz⟩ := nextR_live h K (a + 1) (X ++ [(M.read a).2]) (by omega) (by omega)
   refine ⟨(M.read a).2 :: Y, by rw [nextR_on hr hk, e]; simp, by simp; omega, fun j y hj => ?_, fun hlt => ?_⟩
   ·cases j with
    | zero =>
     simp only [List.getElem?_cons_zero, Option.some.injEq] at hj
     subst hj
     rw [show a + ((0 : Nat) : Int) = a by omega]
     exact ⟨Prod.ext hr rfl, hk⟩
    | succ j =>
     have := hy j y (by simpa using hj)
     rw [show a + ((j + 1 : Nat) : Int) = a + 1 + j by omega]
     exact this
   ·have := hz (by simp only [List.length_cons] at hlt; omega)
    rw [show a + (((M.read a).2 :: Y).length : Int) = a + 1 + Y.length by simp only [List.length_cons]; omega]
    exact this
theorem nextS_live {r : Int} {k : Nat} {M : Cl} (h : Live r k M) {f : Int} (h0 : 0 ≤ f) (h1 : f ≤ 1048576) : ∃ Y : List C, nextS M f = (0, minLow M M.units 1048576, Y) ∧ Y.length ≤ 64 ∧ f + Y.length ≤ max f M.q.n ∧ (∀ (j : Nat) (y : C), Y[j]? = some y → M.read (f + j) = (0, y) ∧ y.k ≠ 0) ∧ (Y = [] → M.q.n ≤ f ∨ (M.read f).2.k = 0) := by
 have hq := h.ok.seq.n
 have hm : many64 f M.q.n ≤ 64 ∧ f + many64 f M.q.n ≤ max f M.q.n ∧ (many64 f M.q.n = 0 → M.q.n ≤ f) := by unfold many64; omega
 obtain ⟨Y, e, hl, hy, hz⟩ := nextR_live h (many64 f M.q.n) f [] h0 (by omega)
 refine ⟨Y, ?_, by omega, by omega, hy, fun hn => ?_⟩
 ·unfold nextS
  rw [h.tail]
  simp only [ne_eq, not_true_eq_false, if_false]
  rw [e]
  simp
 ·subst hn
  by_cases hm0 : many64 f M.q.n = 0
  ·exact .inl (hm.2.2 hm0)
  ·have := hz (by simp; omega)
   right
   simpa using this
end SL
end Go.Proofs.YtcpkeddgkpjioaaGreatDoor

namespace Go.Proofs.YtcpkeddgkpjioaaGreatDoor
open Go.RowKit
namespace SL
open DK SH SQ
theorem chk_of {X : List (List Int)} (h1 : 1 ≤ X.length ∧ X.length ≤ 4) (h2 : X.any wrongC = false) (h3 : X.flatten.any oddU = false) (h4 : X.flatten.Nodup) : (⟨1, X⟩ : Pj).check = 0 := by
 unfold Pj.check
 rw [if_neg (by show ¬ ((1 : Int) < 0 ∨ 1099511627776 < (1 : Int)); decide), if_neg (show ¬ (X.length < 1 ∨ 4 < X.length ∨ X.any wrongC = true) from by rintro (h | h | h); omega; omega; rw [h2] at h; cases h), if_neg (by show ¬ X.flatten.any oddU = true; rw [h3]; decide), if_neg]
 intro h
 exact (unitsOf_nodup X.flatten).1 h h4
theorem home_le {M : Cl} {n : Nat} (h : ∀ x ∈ M.p.cs, x.length ≤ n) (a : Int) : (M.home a).length ≤ n := by
 unfold Cl.home
 rw [List.getD_eq_getElem?_getD]
 cases hg : M.p.cs[(a % (M.p.cs.length : Int)).toNat]? with
 | none => simp
 | some l => exact h _ (List.mem_of_getElem? hg)
theorem slv_boxL {w0 w : World} {F : Nat → Prop} {L : List Asn} (H : Sep w0 F L w) (i : Nat) {N t : Nat} {R : List Value} (hi : L[i]? = some (.box N R t)) (hl : R.length ≤ 1000) : SlV w (.slice (some ⟨N, 0, none⟩) R.length R.length) R.length R := by
 refine ⟨_, _, rfl, Nat.le_refl _, by unfold maxLen; omega, (fun h => by cases h), fun j u hj => ⟨_, rfl, ?_⟩⟩
 have e1 : (Addr.add ⟨N, 0, none⟩ j) = ⟨N, j, none⟩ := by unfold Addr.add; split <;> simp_all
 rw [e1]
 exact H.cell i hi j hj
theorem slv_le2 {w : World} {a : Option Addr} {n c : Nat} {xs : List Value} (h : SlV w (.slice a n c) n xs) : n ≤ 9223372036854775807 := by
 obtain ⟨_, _, he, h1, h2, _⟩ := h; cases he; unfold maxLen at h2; omega
def two01 : List (List Int) := [[0], [1]]
theorem chs_two {w : World} : ∃ w0 : World, ((w.alloc (.cells #[.int .i64 0] 3)).alloc (.cells #[.int .i64 1] 3)).alloc (.cells #[.slice (some ⟨w.heap.size, 0, none⟩) 1 1, .slice (some ⟨w.heap.size + 1, 0, none⟩) 1 1] 29) = w0 ∧ Below w.heap.size w w0 ∧ Chs w0 (some ⟨w.heap.size + 2, 0, none⟩) 2 [([0], some ⟨w.heap.size, 0, none⟩, 1), ([1], some ⟨w.heap.size + 1, 0, none⟩, 1)] := by
 have g1 := (Sep.start w).allocAt w.heap.size [.int .i64 0] 3 rfl
 have g2 := g1.allocAt (w.heap.size + 1) [.int .i64 1] 3 (by simp)
 have g3 := g2.allocAt (w.heap.size + 2) [.slice (some ⟨w.heap.size, 0, none⟩) 1 1, .slice (some ⟨w.heap.size + 1, 0, none⟩) 1 1] 29 (by simp)
 refine ⟨_, rfl, g3.toBelow, slv_boxL g3 0 rfl (by simp), fun x hx => ?_⟩
 rcases List.mem_cons.1 hx with rfl | hx
 ·exact slv_box g3 2 rfl
 ·obtain rfl := List.mem_singleton.1 hx
  exact slv_box g3 1 rfl
theorem new_all : ∃ M, newCl 2 16777216 two01 = (0, M) ∧ Live 16777216 1 M ∧ M.p = ⟨1, two01⟩ ∧ M.q = ⟨1, 0⟩ := by
 obtain ⟨M, h1, h2, h3, h4, _⟩ := new_live (r := 16777216) (n := 2) (X := two01) (by decide) (by decide) (chk_of (by decide) (by decide) (by decide) (by decide)) (by decide)
 exact ⟨M, h1, h2, h3, h4⟩
set_option maxHeartbeats 40000000 in
theorem shipAll_any (ca : Option Addr) (cc : Nat) (X : List CE) (w : World) (hp : DK.Pow w) (hX : CEs w ca cc X) :
  Calls Tryz.prog 3 #[.slice ca X.length cc] w fun en w' => en = .returned (.bool true) ∧ Below w.heap.size w w' := by
 have HP := Lib.hid' hp
 have HX := Lib.hid' hX
 have HA := Zh (alive25_any w hp)
 obtain ⟨M0, hn0, hL0, hp0, hq0⟩ := new_all
 have HN0 := Lib.hid' hn0
 have HL0 := Lib.hid' hL0
 have HP0 := Lib.hid' hp0
 have HQ0 := Lib.hid' hq0
 clear hp hX hn0 hL0 hp0 hq0
 go_enter Tryz.func3, Tryz.ntmps3
 go_wp2_with fail
 refine HA.out.mono ?_
 clear HA
 rintro en w1 ⟨rfl, hb1⟩
 have HB1 := Lib.hid' hb1
 clear hb1
 by_cases hlen : 200 < X.length
 ·have hl2 : (200 : Int) < X.length := by omega
  clear hlen
  go_wp2_with fail
  go_ret
  exact ⟨rfl, HB1.out⟩
 have hl2 : ¬ (200 : Int) < X.length := by omega
 have HLEN := Lib.hid' hlen
 clear hlen
 go_wp2_with fail
 obtain ⟨w2, hw2, hb2, hX2⟩ := chs_two (w := w1)
 rw [hw2]
 have hS2 : Sep w NoF [] w2 := ((Sep.start w).below HB1.out).below hb2
 clear hw2 hb2
 have HNW := Zh (New_any 2 16777216 _ _ _ w2 HP.out hS2 hX2 (by show ([0, 1] : List Int).length ≤ _; decide))
 clear hX2 hS2
 refine HNW.out.mono ?_
 rintro e w3 hE
 unfold NewR at hE
 rw [show newCl 2 16777216 (([([0], some ⟨w1.heap.size, 0, none⟩, 1), ([1], some ⟨w1.heap.size + 1, 0, none⟩, 1)] : List Ch).map (·.1)) = (0, M0) from HN0.out] at hE
 obtain ⟨c, J, rfl, h3⟩ : ∃ c J, e = .returned (.tuple #[ptrV c, .nilIface]) ∧ ClAt c M0 J [] w w3 := by
  rcases hE with ⟨h0, _⟩ | ⟨_, h⟩
  ·exact absurd rfl h0
  ·exact h
 have H3 := Lib.hid' h3
 clear hE h3 HNW HN0
 go_wp2_with fail
 refine (snew_any 1 0 w3).mono ?_
 rintro e w4 hE
 unfold NewSp at hE
 rw [if_neg (by decide)] at hE
 obtain ⟨rfl, hs4⟩ := hE
 have H4 := Zh (H3.out.newB (A := Asn.ship w3.heap.size ⟨1, 0⟩) hs4.toBelow (hs4.at 0 rfl) (fun b hb => by have : b = w3.heap.size := hb; omega))
 clear hs4 H3
 generalize w3.heap.size = s at *
 have hxl := slv_le2 HX.out.row
 go_wp2_with fail
 go_loopw [42] (fun v42 wr => ∃ (k : Nat) (M : Cl), v42 = .int .i64 k ∧ k ≤ X.length ∧ Hid (ClAt c M J [Asn.ship s ⟨1, 0⟩] w wr) ∧ Hid (Live 16777216 (1 + k) M) ∧ Hid (M.p = ⟨1, two01⟩) ∧ Hid (M.q.n ≤ k)) (fun v42 _ => X.length - (intOf v42).toNat)
 case atStart => exact ⟨0, M0, rfl, Nat.zero_le _, H4, HL0, HP0, Zh (by rw [HQ0.out]; decide)⟩
 case round =>
  clear H4 HL0 HP0 HQ0 HB1
  obtain ⟨k, M, rfl, hk, HC, HL, HPP, HQN⟩ := hrel
  by_cases hlt : k < X.length
  ·have hX2 := HX.out.below HC.out.toBelow
   obtain ⟨b, off, rfl, hb, hc⟩ := SlV.row (f := ceV) (s := 2) (fun _ => rfl) (by decide) hX2.row hlt
   have c0 := hc 0 _ rfl; have c1 := hc 1 _ rfl
   simp only [Nat.add_zero] at c0
   have HE := Zh (HX.out.each _ (List.getElem_mem hlt))
   clear hc hX2
   generalize X[k] = x at *
   obtain ⟨⟨xk, xd⟩, xa, xc⟩ := x
   simp only at c0 c1 HE
   go_upto_region 12 with fail
   have hB := HC.out.allocB wr.heap.size [.int .i64 xk, .slice xa xd.length xc] 36 rfl
   rw [show ([.int .i64 xk, .slice xa xd.length xc] : List Value).toArray = #[.int .i64 xk, .slice xa xd.length xc] from rfl] at hB
   have HB := Lib.hid' hB
   clear hB HC c0 c1 hb
   generalize wr.alloc (.cells #[.int .i64 xk, .slice xa xd.length xc] 36) = wb at *
   generalize wr.heap.size = N at *
   have b0 := HB.out.side.cell 0 rfl 0 rfl; have b1 := HB.out.side.cell 0 rfl 1 rfl; have bl := HB.out.side.lt 0 rfl
   have hxd := slv_le2 HE.out
   by_cases hd : 100 < xd.length
   ·have hd2 : (100 : Int) < xd.length := by omega
    clear hd
    go_wp2_with fail
    go_ret
    exact ⟨rfl, HB.out.toBelow⟩
   have hd2 : ¬ (100 : Int) < xd.length := by omega
   have HLV := Zh (show Live 16777216 (1 + (k + 1)) (M.putAt k ⟨xk, xd⟩).2 ∧ (M.putAt k ⟨xk, xd⟩).2.p = ⟨1, two01⟩ ∧ (M.putAt k ⟨xk, xd⟩).2.q.n ≤ ((k + 1 : Nat) : Int) from
    ⟨(HL.out.putAt (n := 1) k ⟨xk, xd⟩ (home_le (by rw [HPP.out]; decide) _) (by have := HLEN.out; omega) (by have := HLEN.out; omega)).mono (by omega), (putAt_up HL.out.ok _ _).p.trans HPP.out, by have h1 := putAt_n HL.out.ok (k : Int) ⟨xk, xd⟩; have h2 := HQN.out; omega⟩)
   have HPT := Zh (Put_any k ⟨xk, xd⟩ xa xc wb HP.out HB.out HL.out.ok (fun M' w' h' => SlV.below HE.out (Nat.le_refl _) h'.toBelow))
   simp only at HPT
   clear hd HL HPP HQN
   generalize M.putAt k ⟨xk, xd⟩ = pr at *
   obtain ⟨pz, M1⟩ := pr
   simp only at HPT HLV
   go_wp2_with fail
   refine HPT.out.mono ?_
   rintro en w5 ⟨rfl, h5⟩
   have H5 := Zh (ClAt.less (K := [_]) h5)
   clear h5 HPT HB b0 b1 bl
   go_wp2_with fail
   go_roundw
   case rel => exact ⟨k + 1, M1, by go_num, by omega, H5, Lib.hid' HLV.out.1, Lib.hid' HLV.out.2.1, Lib.hid' HLV.out.2.2⟩
   case measure => simp [intOf]; omega
  ·have hkx : k ≤ 200 := by have := HLEN.out; omega
   have hq0 := HL.out.ok.seq.n
   have hqn := HQN.out
   go_wp2_with fail
   clear HX HPP HQN hxl hl2 HLEN hk hlt
   go_loopw [9] (fun v9 wr => ∃ at' : Int, v9 = .int .i64 at' ∧ 0 ≤ at' ∧ at' ≤ M.q.n ∧ Hid (ClAt c M J [Asn.ship s ⟨1, at'⟩] w wr)) (fun v9 _ => (M.q.n - intOf v9).toNat)
   case atStart => exact ⟨0, rfl, Int.le_refl _, hq0.1, HC⟩
   case round =>
    clear HC
    obtain ⟨f, rfl, hf0, hf1, HC⟩ := hrel
    obtain ⟨Y, hY, hY64, hYm, hYr, hYe⟩ := nextS_live HL.out hf0 (by omega)
    have HYR := Lib.hid' hYr
    have HYE := Lib.hid' hYe
    have HNX := Zh (next_any ⟨1, f⟩ wr HC.out HL.out.ok ⟨hf0, by show f ≤ 1048576; omega⟩)
    have HY := Lib.hid' hY
    clear hYr hYe hY HC
    go_wp2_with fail
    refine HNX.out.mono ?_
    clear HNX
    rintro en w5 ⟨r, hr, hE⟩
    rw [show nextS M (⟨1, f⟩ : Sp).a = _ from HY.out] at hr
    subst hr
    rcases hE with ⟨h0, _⟩ | ⟨_, pa, pk, Z, rfl, h5, hZ⟩
    ·exact absurd rfl h0
    simp only at hZ
    have hZl : Z.length = Y.length := by rw [← hZ, List.length_map]
    have hB := h5.allocB w5.heap.size [.int .i64 1, .int .i64 (minLow M M.units 1048576), .int .i64 f, .slice pa Z.length pk] 41 rfl
    rw [show ([.int .i64 1, .int .i64 (minLow M M.units 1048576), .int .i64 f, .slice pa Z.length pk] : List Value).toArray = #[.int .i64 1, .int .i64 (minLow M M.units 1048576), .int .i64 f, .slice pa Z.length pk] from rfl] at hB
    have HB := Lib.hid' hB
    have HZL := Lib.hid' hZl
    have HZ := Lib.hid' hZ
    have hZ64 : Z.length ≤ 64 := by omega
    have hZm : f + (Z.length : Int) ≤ M.q.n := by omega
    clear hB h5 hZl hZ HY hY64 hYm
    generalize minLow M M.units 1048576 = tm at *
    go_upto_region 18 with fail
    generalize w5.alloc (.cells #[.int .i64 1, .int .i64 tm, .int .i64 f, .slice pa Z.length pk] 41) = w6 at *
    generalize w5.heap.size = NP at *
    have p2 := HB.out.side.cell 0 rfl 2 rfl; have p3 := HB.out.side.cell 0 rfl 3 rfl; have pl := HB.out.side.lt 0 rfl
    go_wp2_with fail
    clear p2 p3 pl
    go_loopw [75] (fun v75 wr => ∃ j : Nat, v75 = .int .i64 j ∧ j ≤ Z.length ∧ Hid (ClAt c M J (.box NP [.int .i64 1, .int .i64 tm, .int .i64 f, .slice pa Z.length pk] 41 :: ceR Z pa pk :: Asn.all (Z.map ceA) :: Asn.ship s ⟨1, f⟩ :: []) w wr)) (fun v75 _ => Z.length - (intOf v75).toNat)
    case atStart => exact ⟨0, rfl, Nat.zero_le _, HB⟩
    case round =>
     clear HB
     obtain ⟨j, rfl, hj, HB⟩ := hrel
     by_cases hjl : j < Z.length
     ·obtain ⟨b, off, rfl, hb, hc⟩ := SlV.row (f := ceV) (s := 2) (fun _ => rfl) (by decide) (SlV.of_own (HB.out.side.row 1 rfl)) hjl
      have c0 := hc 0 _ rfl; have c1 := hc 1 _ rfl
      simp only [Nat.add_zero] at c0
      have HMEM := Zh (show Z[j] ∈ Z from List.getElem_mem hjl)
      have HRJ := Zh (HYR.out j Z[j].c (by rw [← HZ.out, List.getElem?_map, List.getElem?_eq_getElem hjl]; rfl))
      clear hc
      generalize Z[j] = x at *
      obtain ⟨⟨xk, xd⟩, xa, xc⟩ := x
      simp only at c0 c1 HRJ
      go_upto_region 23 with fail
      have hB := HB.out.allocB wr.heap.size [.int .i64 xk, .slice xa xd.length xc] 36 rfl
      rw [show ([.int .i64 xk, .slice xa xd.length xc] : List Value).toArray = #[.int .i64 xk, .slice xa xd.length xc] from rfl] at hB
      have HB7 := Lib.hid' hB
      clear hB HB c0 c1 hb
      generalize wr.alloc (.cells #[.int .i64 xk, .slice xa xd.length xc] 36) = w7 at *
      generalize wr.heap.size = N7 at *
      have hfj0 : 0 ≤ f + (j : Int) := by omega
      have hfj1 : f + (j : Int) ≤ 1048576 := by omega
      have HRD := Zh (Read_any (f + j) w7 HB7.out HL.out.ok)
      rw [HRJ.out.1] at HRD
      simp only at HRD
      go_wp2_with fail
      refine HRD.out.mono ?_
      clear HRD
      rintro en w8 ⟨a8, c8, rfl, ho8, hb8⟩
      have h8 := HB7.out.belowRow hb8 ho8
      have hB := h8.allocB w8.heap.size [.int .i64 xk, .slice a8 xd.length c8] 36 rfl
      rw [show ([.int .i64 xk, .slice a8 xd.length c8] : List Value).toArray = #[.int .i64 xk, .slice a8 xd.length c8] from rfl] at hB
      have HB9 := Lib.hid' hB
      clear hB h8 ho8 hb8 HB7
      rw [errV_0]
      go_upto_region 24 with fail
      generalize w8.alloc (.cells #[.int .i64 xk, .slice a8 xd.length c8] 36) = w9 at *
      generalize w8.heap.size = N9 at *
      have q0 := HB9.out.side.cell 0 rfl 0 rfl; have q1 := HB9.out.side.cell 0 rfl 1 rfl; have ql := HB9.out.side.lt 0 rfl
      have r0 := HB9.out.side.cell 2 rfl 0 rfl; have r1 := HB9.out.side.cell 2 rfl 1 rfl; have rl := HB9.out.side.lt 2 rfl
      have HSM := Zh (same_any (.agg #[.int .i64 xk, .slice xa xd.length xc]) (.agg #[.int .i64 xk, .slice a8 xd.length c8]) ⟨xk, xd⟩ ⟨xk, xd⟩ w9 ⟨xa, xc, rfl, SlV.of_own (Sep.one ceA HB9.out.side 5 rfl HMEM.out)⟩ ⟨a8, c8, rfl, SlV.of_own (HB9.out.side.row 1 rfl)⟩)
      rw [show decide ((⟨xk, xd⟩ : C) = ⟨xk, xd⟩) = true by simp] at HSM
      go_wp2_with fail
      refine HSM.out.mono ?_
      clear HSM q0 q1 ql r0 r1 rl
      rintro en w10 ⟨rfl, hb10⟩
      have H10 := Zh (ClAt.less (K := [_, _, _]) (HB9.out.below hb10))
      clear hb10 HB9
      go_wp2_with fail
      go_roundw
      case rel => exact ⟨j + 1, by go_num, by omega, H10⟩
      case measure => simp [intOf]; omega
     ·have p3 := HB.out.side.cell 0 rfl 3 rfl; have pl := HB.out.side.lt 0 rfl
      by_cases hz : Z.length = 0
      ·have hYn : Y = [] := List.length_eq_zero_iff.1 (by rw [← HZL.out]; exact hz)
       have HEND := Zh (HYE.out hYn)
       have hz2 : (Z.length : Int) = 0 := by omega
       have HTL := Zh (ctail_any wr HB.out)
       rw [HL.out.tail] at HTL
       simp only at HTL
       have HRD := Zh (fun (L' : List Asn) (wq : World) (hq : ClAt c M J L' w wq) => Read_any f wq hq HL.out.ok)
       have hre := HL.out.read (a := f) hf0 (by omega)
       clear hYn hz HYR HYE HZ HZL
       generalize M.read f = rd at *
       obtain ⟨z, x⟩ := rd
       simp only at hre HEND
       subst hre
       go_wp2_with fail
       refine HTL.out.mono ?_
       clear HTL p3 pl
       rintro en w7 ⟨rfl, h7⟩
       have H7 := Lib.hid' h7
       clear h7 HB
       rw [errV_0]
       go_wp2_with fail
       refine (HRD.out _ _ H7.out).mono ?_
       clear HRD
       rintro en w8 ⟨a8, c8, rfl, ho8, hb8⟩
       have H8 := Zh ((H7.out.below hb8).toBelow)
       clear ho8 hb8 H7
       rw [errV_0]
       by_cases hfe : f = M.q.n
       ·clear HEND
        go_wp2_with fail
        go_ret
        exact ⟨rfl, H8.out.trans ((show Below w8.heap.size w8 _ by go_grown).mono H8.out.size)⟩
       ·have hx0 : x.k = 0 := by rcases HEND.out with h | h; omega; exact h
        obtain ⟨xk, xd⟩ := x
        simp only at hx0
        subst hx0
        clear HEND
        go_wp2_with fail
        go_ret
        exact ⟨rfl, H8.out.trans ((show Below w8.heap.size w8 _ by go_grown).mono H8.out.size)⟩
      ·have hz2 : ¬ (Z.length : Int) = 0 := by omega
       have HNZ := Lib.hid' hz
       have HTK := Zh (fun (wq : World) (hq : ClAt c M J (Asn.ship s ⟨1, f⟩ :: []) w wq) => stake_any ⟨1, f⟩ 1 (f + Z.length) wq hq)
       rw [show takeSp ⟨1, f⟩ 1 (f + Z.length) = (0, ⟨1, f + Z.length⟩) by
        unfold takeSp
        rw [if_neg (by rw [inB_iff.2 ⟨by omega, by omega⟩]; decide), if_neg (by simp), if_neg (by show ¬ f + (Z.length : Int) ≤ f; omega)]] at HTK
       simp only at HTK
       have H7 := Zh (ClAt.less (K := [_, _, _]) HB.out)
       have hfz0 : 0 ≤ f + (Z.length : Int) := by omega
       have hfz1 : f + (Z.length : Int) ≤ 1048576 := by omega
       clear hz HYR HYE HZ HZL HB
       go_wp2_with fail
       refine (HTK.out _ H7.out).mono ?_
       clear HTK p3 pl
       rintro en w8 ⟨rfl, h8⟩
       have H8 := Lib.hid' h8
       clear h8 H7
       rw [errV_0]
       go_wp2_with fail
       go_roundw
       case rel => exact ⟨f + Z.length, by go_num, by omega, by omega, H8⟩
       case measure => have := HNZ.out; simp [intOf]; omega
end SL
end Go.Proofs.YtcpkeddgkpjioaaGreatDoor
