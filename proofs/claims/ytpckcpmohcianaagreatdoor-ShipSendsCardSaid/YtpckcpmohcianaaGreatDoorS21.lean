/- Proved here: a part of the proof (21 of 34). -/
import Derived.Test.YtpckcpmohcianaaGreatDoorS19
import Derived.Test.YtpckcpmohcianaaGreatDoorS20
import Derived.Lib.IndexAny
set_option linter.unusedSimpArgs false
set_option linter.unusedVariables false
set_option maxRecDepth 20000
namespace Go.Proofs.YtpckcpmohcianaaGreatDoor
open Go.RowKit
namespace DK
def listDk (D : Dk) : Nat × List Nm := if D.down = true then (14, []) else (0, namesOf D.shown)
def NamesR (r : Nat × List Nm) (w : World) (e : Ending) (w' : World) : Prop := ∃ a c, e = .returned (.tuple #[.slice a r.2.length c, errV r.1]) ∧ w'.ownsRow w.heap.size 9 1 (.slice a r.2.length c) r.2.length (strVs r.2) ∧ Below w.heap.size w w'
set_option maxHeartbeats 1000000 in
theorem dlist_any {m N : Nat} {D : Dk} {G : Nat → Prop} (w : World) (h : (Asn.disk N D G).holds w) (ho : Ok m D) (hm : m ≤ 1073741824) : Calls Tryz.prog 163 #[ptrV N] w (NamesR (listDk D) w) := by
 obtain ⟨bs, bh, v, k, Ls, Lh, vs, hin⟩ := disk_in h
 have c2 := hin.c2
 have c5 := hin.c5
 have hl := hin.lt
 have hln : Lh.length = (namesOf D.shown).length := by rw [(namesOf_perm D.shown).length_eq, List.length_map]; exact hin.fh.len
 have HS := Zh (sortS_any bh Lh D.shown w hin.mh hin.fh.keys (fun p hp => by
  obtain ⟨q, hq, hr⟩ := F2.mem_left hin.fh hp
  have h1 := (ho.shown.files q hq).1
  unfold named at h1
  simp only [Bool.and_eq_true, decide_eq_true_eq] at h1
  have h2 : p.1 = q.1 := hr.1
  have h3 := h1.1.2
  rw [h2]; unfold maxLen; omega) (by have := ho.fewS; have := hin.fh.len; omega))
 rw [hln] at HS
 cases hd : D.down with
 | true =>
  have HF := Zh (show listDk D = (14, []) by unfold listDk; rw [if_pos hd])
  rw [hd] at c5
  clear hd hin h ho HS hln
  go_enter Tryz.func163, Tryz.ntmps163
  go_wp2_with (go_at_call 220; refine (looks_any N true _ c5 hl).mono ?_; rintro e w' ⟨rfl, rfl⟩)
  go_ret2
  rw [HF.out]
  exact ⟨none, 0, rfl, own_nil _ _ _ _, Below.refl _ _⟩
 | false =>
  have HF := Zh (show listDk D = (0, namesOf D.shown) by unfold listDk; rw [if_neg (by rw [hd]; decide)])
  rw [hd] at c5
  clear hd hin h ho hln
  go_enter Tryz.func163, Tryz.ntmps163
  go_wp2_with (first | (go_at_call 220; refine (looks_any N false _ c5 hl).mono ?_; rintro e w' ⟨rfl, rfl⟩) | (go_at_call 222; refine (keyS_any _ _).mono ?_; rintro e w2 ⟨rfl, rfl⟩) | (go_at_call 221; refine HS.out.mono ?_; rintro e w3 ⟨v3, rfl, hrow, _, hb3⟩))
  go_ret2
  rw [HF.out]
  obtain ⟨a, c, rfl⟩ := own_shape hrow
  exact ⟨a, c, rfl, own_base hrow (by omega), ((Below.refl w.heap.size w).alloc (Nat.le_refl _) _).trans (hb3.mono (by simp))⟩

theorem noTilde_is (n : Nm) : decide (0 ≤ Go.Lib.indexByte n.data.toList 126) = !noTilde n := by
 rw [← Go.Lib.contains_iff_indexByte]
 unfold noTilde
 induction n.data.toList with
 | nil => rfl
 | cons x l ih =>
  simp only [List.contains_cons, List.all_cons, ih]
  by_cases hx : x = 126
  ·subst hx; simp
  ·have h1 : ((126 : UInt8) == x) = false := by rw [beq_eq_false_iff_ne]; exact fun e => hx e.symm
   have h2 : (x != 126) = true := by simpa using hx
   rw [h1, h2]; simp
theorem begun_is (n : Nm) : Go.Lib.hasPrefix n.data.toList [126] = begun n := by
 unfold Go.Lib.hasPrefix begun
 cases n.data.toList with
 | nil => rfl
 | cons x l =>
  simp only [List.isPrefixOf, List.head?_cons, Bool.and_true]
  by_cases hx : x = 126
  ·subst hx; rfl
  ·have h1 : ((126 : UInt8) == x) = false := by rw [beq_eq_false_iff_ne]; exact fun e => hx e.symm
   rw [h1]
   symm
   rw [beq_eq_false_iff_ne]
   simpa using hx
set_option maxHeartbeats 1000000 in
theorem snamed_any (n : Nm) (w : World) : Calls Tryz.prog 202 #[.string n] w fun e w' => e = .returned (.bool (objNamed n)) ∧ Below w.heap.size w w' := by
 by_cases h1 : n.size ≤ 20
 ·have g1 : (n.size : Int) ≤ 20 := by omega
  cases h2 : named n with
  | false =>
   have HF := Zh (show objNamed n = false by unfold objNamed; rw [h2]; simp)
   clear h1
   go_enter Tryz.func202, Tryz.ntmps202
   go_wp2_with (go_at_call 204; refine (named_any n _).mono ?_; rintro e w1 ⟨rfl, hb⟩; rw [h2])
   go_ret
   exact ⟨by rw [HF.out]; rfl, hb⟩
  | true =>
   have HF := Zh (show objNamed n = noTilde n by unfold objNamed; rw [h2]; simp [h1])
   clear h1
   go_enter Tryz.func202, Tryz.ntmps202
   go_wp2_with (first | (go_at_call 204; refine (named_any n _).mono ?_; rintro e w1 ⟨rfl, hb⟩; rw [h2]) | (go_at_call 243; refine (contains1_any n 126 _).mono ?_; rintro e w2 ⟨rfl, rfl⟩; rw [noTilde_is]))
   go_ret
   exact ⟨by rw [HF.out]; simp, hb⟩
 ·have HF := Zh (show objNamed n = false by unfold objNamed; simp [h1])
  have g1 : ¬ (n.size : Int) ≤ 20 := by omega
  clear h1
  go_enter Tryz.func202, Tryz.ntmps202
  go_wp2
  go_ret
  exact ⟨by rw [HF.out]; rfl, Below.refl _ _⟩
/-- a store's box, apart from its disk -/
structure StoAt (p N : Nat) (G : Nat → Prop) (w : World) : Prop where
 c0 : w.cell? ⟨p, 0, none⟩ = some (ptrV N)
 lt : p < w.heap.size
 off : ¬ G p
theorem StoAt.after {p N : Nat} {G G1 : Nat → Prop} {w w1 : World} {L : List Asn} {D : Dk} (h : StoAt p N G w) (hk : Sep w G (Asn.disk N D G1 :: L) w1) : StoAt p N G1 w1 :=
 ⟨hk.fr.cell h.c0 h.off, Nat.lt_of_lt_of_le h.lt hk.fr.size, fun hg => (hk.new _ List.mem_cons_self p hg).elim (fun hh => by have := h.lt; omega) h.off⟩
theorem StoAt.below {p N : Nat} {G : Nat → Prop} {w w1 : World} (h : StoAt p N G w) (hb : Below w.heap.size w w1) : StoAt p N G w1 :=
 ⟨(hb.cell (p := ⟨p, 0, none⟩) h.lt).trans h.c0, Nat.lt_of_lt_of_le h.lt hb.size, h.off⟩
theorem asks_any7 (p : Nat) (n : Nm) (w : World) : Calls Tryz.prog 140 #[ptrV p, .string n] w fun e w' => e = .returned (errV (if objNamed n = true then 0 else 2)) ∧ Below w.heap.size w w' := by
 cases h : objNamed n with
 | true =>
  go_enter Tryz.func140, Tryz.ntmps140
  go_wp2_with (go_at_call 202; refine (snamed_any n _).mono ?_; rintro e w1 ⟨rfl, hb⟩; rw [h])
  go_ret
  exact ⟨rfl, hb⟩
 | false =>
  go_enter Tryz.func140, Tryz.ntmps140
  go_wp2_with (go_at_call 202; refine (snamed_any n _).mono ?_; rintro e w1 ⟨rfl, hb⟩; rw [h])
  go_ret
  exact ⟨rfl, hb⟩
set_option maxHeartbeats 1000000 in
theorem get_any7 {m p N : Nat} {D : Dk} {G : Nat → Prop} (n : Nm) (w : World) (h : (Asn.disk N D G).holds w) (hs : StoAt p N G w) (ho : Ok m D) : Calls Tryz.prog 168 #[ptrV p, .string n] w (ReadDR (getD D n) w) := by
 have HH := Lib.hid' h
 cases hn : objNamed n with
 | false =>
  have HF := Zh (show getD D n = (2, []) by unfold getD; rw [if_pos hn])
  have HA := Zh (asks_any7 p n w)
  rw [if_neg (by rw [hn]; decide)] at HA
  clear hs h ho
  go_enter Tryz.func168, Tryz.ntmps168
  go_wp2_with (go_at_call 140; refine HA.out.mono ?_; rintro e w1 ⟨rfl, hb⟩)
  go_ret2
  rw [HF.out]
  exact ⟨none, 0, rfl, own_nil _ _ _ _, hb⟩
 | true =>
  have HF := Zh (show getD D n = readD D n by unfold getD; rw [if_neg (by rw [hn]; decide)])
  have HA := Zh (asks_any7 p n w)
  rw [if_pos hn] at HA
  have HO := Lib.hid' ho
  have HSt := Lib.hid' hs
  clear hs h ho
  go_enter Tryz.func168, Tryz.ntmps168
  go_upto_region 2 with (go_at_call 140; refine HA.out.mono ?_; rintro e w1 ⟨rfl, hb⟩; rw [errV_0])
  have hs1 := HSt.out.below hb
  have c0 := hs1.c0
  have hl := hs1.lt
  have HD1 := Zh ((Sep.idle HH.out).below hb)
  go_wp2_with (go_at_call 227; refine (dread_any n _ (HD1.out.at 0 rfl) HO.out).mono ?_; rintro e w2 ⟨a, c, rfl, hrow, hb2⟩)
  go_ret2
  rw [HF.out]
  exact ⟨a, c, rfl, own_base hrow hb.size, hb.trans (hb2.mono hb.size)⟩
theorem pend_write (D : Dk) (n : Nm) (d : List UInt8) : (writeD D n d).2.pend.length ≤ D.pend.length + 1 := by
 have h := congrArg List.length (pend_works D)
 unfold writeD
 simp only
 repeat' split
 all_goals first | (simp only [addD, List.length_append, List.length_singleton]; omega) | omega
theorem pend_sync (D : Dk) : (syncD D).2.pend.length ≤ D.pend.length := by
 have h := congrArg List.length (pend_works D)
 unfold syncD
 simp only
 split
 ·omega
 ·simp
theorem pend_remove (D : Dk) (n : Nm) : (removeD D n).2.pend.length ≤ D.pend.length + 1 := by
 have h := congrArg List.length (pend_works D)
 unfold removeD
 simp only
 repeat' split
 all_goals first | (simp only [addD, List.length_append, List.length_singleton]; omega) | omega
set_option maxHeartbeats 4000000 in
theorem put_any7 {m p N : Nat} {D : Dk} {G : Nat → Prop} (n : Nm) (a : Option Addr) (c : Nat) (d : List UInt8) (w : World) (h : (Asn.disk N D G).holds w) (hs : StoAt p N G w) (ho : Ok m D) (hm : m ≤ 1073741824) (hp : D.pend.length ≤ 1073741000) (hd : Bytes w (.slice a d.length c) d) (hout : SlIn (fun k => ¬ G k) (.slice a d.length c)) :
  Calls Tryz.prog 93 #[ptrV p, .string n, .slice a d.length c] w (DiskR N G (putD D n d).2 (errV (putD D n d).1) w) := by
 have HH := Lib.hid' h
 have HA := Zh (asks_any7 p n w)
 cases hn : objNamed n with
 | false =>
  have HF := Zh (show putD D n d = (2, D) by unfold putD; rw [if_pos hn])
  rw [if_neg (by rw [hn]; decide)] at HA
  clear hs h ho hd hout
  go_enter Tryz.func93, Tryz.ntmps93
  go_wp2_with (go_at_call 140; refine HA.out.mono ?_; rintro e w1 ⟨rfl, hb⟩)
  go_ret
  rw [HF.out]
  exact DiskR.idle HH.out hb
 | true =>
  have hsz : ¬ 9223372036854775807 < 1 + n.size := by
   unfold objNamed at hn
   simp only [Bool.and_eq_true, decide_eq_true_eq] at hn
   omega
  rw [if_pos hn] at HA
  have HSt := Lib.hid' hs
  have HF0 := Zh (show putD D n d = (if (writeD D (tilde ++ n) d).1 ≠ 0 then writeD D (tilde ++ n) d else
   if (syncD (writeD D (tilde ++ n) d).2).1 ≠ 0 then syncD (writeD D (tilde ++ n) d).2 else
   if (renameD (syncD (writeD D (tilde ++ n) d).2).2 (tilde ++ n) n).1 ≠ 0 then renameD (syncD (writeD D (tilde ++ n) d).2).2 (tilde ++ n) n else
   syncD (renameD (syncD (writeD D (tilde ++ n) d).2).2 (tilde ++ n) n).2) by unfold putD; rw [if_neg (by rw [hn]; decide)])
  have ho1 := ho.write (tilde ++ n) d
  have ho2 := ho1.sync
  have ho3 := ho2.rename (tilde ++ n) n
  have hp1 := pend_write D (tilde ++ n) d
  have hp2 := pend_sync (writeD D (tilde ++ n) d).2
  have HWR := Zh (fun (wq : World) (hb : Below w.heap.size w wq) => write_any6 (tilde ++ n) a c d wq (((Sep.idle HH.out).below hb).at 0 rfl) ho hm (by omega) (SlV.below hd (Nat.le_refl _) hb) hout)
  clear hs h ho hd hout
  go_enter Tryz.func93, Tryz.ntmps93
  go_upto_region 2 with (go_at_call 140; refine HA.out.mono ?_; rintro e w1 ⟨rfl, hb⟩; rw [errV_0])
  have hs1 := HSt.out.below hb
  have HD1 := Zh ((Sep.idle HH.out).below hb)
  have HWR1 := Zh (HWR.out w1 hb)
  have c0 := hs1.c0
  have hl := hs1.lt
  clear HWR HA hb
  generalize writeD D (tilde ++ n) d = r1 at *
  obtain ⟨e1, D1⟩ := r1
  simp only at ho1 ho2 ho3 hp1 hp2 HF0 HWR1
  by_cases h1 : e1 = 0
  rotate_left
  ·have HF := Zh (show putD D n d = (e1, D1) by rw [HF0.out, if_pos h1])
   have H1 := Lib.hid' h1
   clear h1 ho1 ho2 ho3 HF0
   go_wp2_with (go_at_call 141; refine HWR1.out.mono ?_; rintro e w2 ⟨rfl, G2, hk2⟩; rw [errV_pos H1.out])
   go_ret
   rw [HF.out]
   simp only [errV_pos H1.out]
   exact ⟨rfl, G2, HD1.out.call hk2⟩
  subst h1
  go_upto_region 5 with (go_at_call 141; refine HWR1.out.mono ?_; rintro e w2 ⟨rfl, G2, hk2⟩; rw [errV_0])
  have hs2 := hs1.after hk2
  have HSY := Zh (sync_any w2 (hk2.at 0 rfl) ho1)
  have HD2 := Zh (HD1.out.call hk2)
  clear c0 hl HWR1 hk2
  have c0 := hs2.c0
  have hl := hs2.lt
  generalize syncD D1 = r2 at *
  obtain ⟨e2, D2⟩ := r2
  simp only at ho2 ho3 hp2 HF0 HSY
  by_cases h2 : e2 = 0
  rotate_left
  ·have HF := Zh (show putD D n d = (e2, D2) by rw [HF0.out, if_neg (by simp), if_pos h2])
   have H2 := Lib.hid' h2
   clear h2 ho1 ho2 ho3 HF0
   go_wp2_with (go_at_call 142; refine HSY.out.mono ?_; rintro e w3 ⟨rfl, G3, hk3⟩; rw [errV_pos H2.out])
   go_ret
   rw [HF.out]
   simp only [errV_pos H2.out]
   exact ⟨rfl, G3, HD2.out.call hk3⟩
  subst h2
  go_upto_region 8 with (go_at_call 142; refine HSY.out.mono ?_; rintro e w3 ⟨rfl, G3, hk3⟩; rw [errV_0])
  have hs3 := hs2.after hk3
  have HRN := Zh (rename_any (tilde ++ n) n w3 (hk3.at 0 rfl) ho2 (by omega))
  have HD3 := Zh (HD2.out.call hk3)
  clear c0 hl HSY hk3
  have c0 := hs3.c0
  have hl := hs3.lt
  generalize renameD D2 (tilde ++ n) n = r3 at *
  obtain ⟨e3, D3⟩ := r3
  simp only at ho3 HF0 HRN
  by_cases h3 : e3 = 0
  rotate_left
  ·have HF := Zh (show putD D n d = (e3, D3) by rw [HF0.out, if_neg (by simp), if_neg (by simp), if_pos h3])
   have H3 := Lib.hid' h3
   clear h3 ho1 ho2 ho3 HF0
   go_wp2_with (go_at_call 143; refine HRN.out.mono ?_; rintro e w4 ⟨rfl, G4, hk4⟩; rw [errV_pos H3.out])
   go_ret
   rw [HF.out]
   simp only [errV_pos H3.out]
   exact ⟨rfl, G4, HD3.out.call hk4⟩
  subst h3
  have HF := Zh (show putD D n d = syncD D3 by rw [HF0.out, if_neg (by simp), if_neg (by simp), if_neg (by simp)])
  go_upto_region 11 with (go_at_call 143; refine HRN.out.mono ?_; rintro e w4 ⟨rfl, G4, hk4⟩; rw [errV_0])
  have hs4 := hs3.after hk4
  have HSY := Zh (sync_any w4 (hk4.at 0 rfl) ho3)
  have HD4 := Zh (HD3.out.call hk4)
  clear c0 hl HRN hk4 ho1 ho2 ho3 HF0
  have c0 := hs4.c0
  have hl := hs4.lt
  go_wp2_with (go_at_call 142; refine HSY.out.mono ?_; rintro e w5 ⟨rfl, hk5⟩)
  go_ret
  rw [HF.out]
  exact ⟨rfl, DiskR.then HD4.out hk5⟩
end DK
end Go.Proofs.YtpckcpmohcianaaGreatDoor

namespace Go.Proofs.YtpckcpmohcianaaGreatDoor
open Go.RowKit
namespace DK
theorem etStr : ElemT Tryz.prog 167 9 1 16 := ElemT.mk' (z := .string ⟨#[]⟩) Tryz.underlying167 (by kernel_rfl) rfl (by decide) (by decide)
theorem strs_flat : ∀ l : List Nm, l.flatMap (fun b => [Value.string b]) = strVs l
 | [] => rfl
 | b :: ks => by
  have ih := strs_flat ks
  rw [List.flatMap_cons, ih]; rfl
theorem str_at {w : World} {e n : Nat} {v : Value} {l : List Nm} (h : w.ownsRow 0 e 1 v n (strVs l)) (hn : n = l.length) {k : Nat} (hk : k < l.length) :
  ∃ b off cap, v = .slice (some ⟨b, off, none⟩) n cap ∧ b < w.heap.size ∧ w.cell? ⟨b, off + k, none⟩ = some (.string l[k]) := by
 obtain ⟨a, c, rfl⟩ := own_shape h
 have h2 : SlV w (.slice a n c) n (l.flatMap (fun b => [Value.string b])) := by rw [strs_flat]; exact SlV.of_own h
 obtain ⟨b, off, he, hb, hc⟩ := SlV.row (f := fun b : Nm => [Value.string b]) (s := 1) (fun _ => rfl) (by decide) h2 hk
 refine ⟨b, off, c, by rw [he], hb, ?_⟩
 have := hc 0 _ rfl
 rwa [Nat.mul_one, Nat.add_zero] at this
theorem listN_succ (l : List Nm) (b : Nm) {k : Nat} (h : k < l.length) : listN (l.take (k + 1)) b = listN (l.take k) b ++ (if (objNamed l[k] && begins b l[k]) = true then [l[k]] else []) := by
 unfold listN
 rw [List.take_add_one, List.getElem?_eq_getElem h, List.filter_append]
 simp only [Option.toList_some]
 congr 1
 by_cases hb : (objNamed l[k] && begins b l[k]) = true
 ·rw [if_pos hb, List.filter_cons_of_pos (p := fun n => objNamed n && begins b n) hb]; rfl
 ·rw [if_neg hb, List.filter_cons_of_neg (p := fun n => objNamed n && begins b n) hb]; rfl
theorem listN_len (l : List Nm) (b : Nm) (k : Nat) : (listN (l.take k) b).length ≤ l.length := by
 unfold listN
 have h1 := List.length_filter_le (fun n => objNamed n && begins b n) (l.take k)
 have h2 := List.length_take_le k l
 rw [List.length_take] at h1; omega
def slistD (D : Dk) (b : Nm) : Nat × List Nm := if D.down = true then (14, []) else (0, listN (namesOf D.shown) b)
theorem names_len {m : Nat} {D : Dk} (ho : Ok m D) : (namesOf D.shown).length ≤ m := by rw [(namesOf_perm D.shown).length_eq, List.length_map]; exact ho.fewS
set_option maxHeartbeats 4000000 in
theorem slist_any {m p N : Nat} {D : Dk} {G : Nat → Prop} (b : Nm) (w : World) (h : (Asn.disk N D G).holds w) (hs : StoAt p N G w) (ho : Ok m D) (hm : m ≤ 1073741824) : Calls Tryz.prog 166 #[ptrV p, .string b] w (NamesR (slistD D b) w) := by
 have HL := Zh (dlist_any w h ho hm)
 have hnl := names_len ho
 have c0 := hs.c0
 have hl := hs.lt
 clear h hs ho
 cases hd : D.down with
 | true =>
  have HF := Zh (show slistD D b = (14, []) by unfold slistD; rw [if_pos hd])
  have HG := Zh (show listDk D = (14, []) by unfold listDk; rw [if_pos hd])
  rw [HG.out] at HL
  clear hd
  go_enter Tryz.func166, Tryz.ntmps166
  go_wp2_with (go_at_call 163; refine HL.out.mono ?_; rintro e w1 ⟨a, c, rfl, hrow, hb⟩)
  go_ret2
  rw [HF.out]
  exact ⟨none, 0, rfl, own_nil _ _ _ _, hb⟩
 | false =>
  have HG := Zh (show listDk D = (0, namesOf D.shown) by unfold listDk; rw [if_neg (by rw [hd]; decide)])
  have HF := Zh (show slistD D b = (0, listN (namesOf D.shown) b) by unfold slistD; rw [if_neg (by rw [hd]; decide)])
  rw [HG.out] at HL
  clear hd HG
  generalize namesOf D.shown = l at *
  go_enter Tryz.func166, Tryz.ntmps166
  go_upto_region 4 with (go_at_call 163; refine HL.out.mono ?_; rintro e w1 ⟨a, c, rfl, hrow, hb⟩)
  have H1 := ((Sep.start w).belowRow hb hrow).nilRow 9 1
  have H := Lib.hid' H1
  clear H1 hrow hb c0 hl HL
  have hl30 : l.length ≤ 1073741824 := by omega
  clear hnl
  go_wp2_with fail
  go_loopw [27, 8] (fun v27 v8 wr => ∃ (k : Nat) (oa : Option Addr) (oc : Nat), v27 = .int .i64 (k : Nat) ∧ v8 = .slice oa (listN (l.take k) b).length oc ∧ k ≤ l.length ∧ Hid (Sep w NoF [.row 9 1 (.slice oa (listN (l.take k) b).length oc) (listN (l.take k) b).length (strVs (listN (l.take k) b)), .row 9 1 (.slice a l.length c) l.length (strVs l)] wr)) (fun v27 _ _ => l.length - (intOf v27).toNat)
  case atStart => exact ⟨0, none, 0, rfl, rfl, Nat.zero_le _, H⟩
  case round =>
   clear H
   obtain ⟨k, oa, oc, rfl, rfl, hk, HS⟩ := hrel
   by_cases hlt : k < l.length
   ·have hlt' : (k : Int) < (l.length : Int) := by omega
    have H0 := HS.out
    obtain ⟨bb, off, cap, he, hbb, d0⟩ := str_at (H0.row 1 rfl) rfl hlt
    simp only [Value.slice.injEq, true_and] at he
    obtain ⟨rfl, rfl⟩ := he
    have HSU := Zh (listN_succ l b hlt)
    have hfl := listN_len l b k
    clear HS
    obtain ⟨F, hF⟩ : ∃ F, listN (l.take k) b = F := ⟨_, rfl⟩
    rw [hF] at hfl H0 HSU ⊢
    have HFk := Lib.hid' hF
    have HX := Lib.hid' H0
    clear hF H0
    obtain ⟨z, hz⟩ : ∃ z, l[k] = z := ⟨_, rfl⟩
    rw [hz] at d0 HSU
    clear hz
    cases hn : objNamed z with
    | false =>
     rw [hn] at HSU
     have HF2 := Zh (show listN (l.take (k + 1)) b = F by rw [HSU.out]; simp)
     go_wp2_with (go_at_call 202; refine (snamed_any z _).mono ?_; rintro e w2 ⟨rfl, hb2⟩; rw [hn])
     go_roundw
     case rel => exact ⟨k + 1, oa, oc, by go_num, by rw [HF2.out], by omega, Zh (by rw [HF2.out]; exact HX.out.below hb2)⟩
     case measure => simp [intOf]; omega
    | true =>
     cases hg : begins b z with
     | false =>
      rw [hn, hg] at HSU
      have HF2 := Zh (show listN (l.take (k + 1)) b = F by rw [HSU.out]; simp)
      have HPX := Zh (show ∀ w : World, Calls Tryz.prog 164 #[.string z, .string b] w fun e w' => e = .returned (.bool false) ∧ w' = w from fun w => by have := hasPrefix_any z b w; rwa [show Go.Lib.hasPrefix z.data.toList b.data.toList = false from hg] at this)
      go_wp2_with (first | (go_at_call 202; refine (snamed_any z _).mono ?_; rintro e w2 ⟨rfl, hb2⟩; rw [hn]) | (go_at_call 164; refine (HPX.out _).mono ?_; rintro e w3 ⟨rfl, rfl⟩))
      go_roundw
      case rel => exact ⟨k + 1, oa, oc, by go_num, by rw [HF2.out], by omega, Zh (by rw [HF2.out]; exact HX.out.below hb2)⟩
      case measure => simp [intOf]; omega
     | true =>
      rw [hn, hg] at HSU
      have HF2 := Zh (show listN (l.take (k + 1)) b = F ++ [z] by rw [HSU.out]; rfl)
      have HPX := Zh (show ∀ w : World, Calls Tryz.prog 164 #[.string z, .string b] w fun e w' => e = .returned (.bool true) ∧ w' = w from fun w => by have := hasPrefix_any z b w; rwa [show Go.Lib.hasPrefix z.data.toList b.data.toList = true from hg] at this)
      go_wp2_with (first | (go_at_call 202; refine (snamed_any z _).mono ?_; rintro e w2 ⟨rfl, hb2⟩; rw [hn]; have HX2 := HX.out.below hb2) | (go_at_call 164; refine (HPX.out _).mono ?_; rintro e w3 ⟨rfl, rfl⟩) | (at_builtin; refine Sep.append etStr rfl (.tmp 38) (.tmp 40) rfl [.string z] rfl HX2 0 rfl rfl rfl (by simp [Value.oneCell']) (by omega) ?_; intro aq cq wq HA))
      go_roundw
      case rel => exact ⟨k + 1, aq, cq, by go_num, by rw [HF2.out, List.length_append]; rfl, by omega, Zh (by rw [HF2.out]; have := HA; unfold strVs at this ⊢; rw [List.map_append, List.length_append]; exact this)⟩
      case measure => simp [intOf]; omega
   ·obtain rfl : k = l.length := by omega
    have H0 := HS.out
    rw [List.take_length] at H0
    have HX := Lib.hid' H0
    clear HS H0
    rw [List.take_length]
    go_wp2_with fail
    go_ret2
    rw [HF.out]
    exact ⟨oa, oc, rfl, HX.out.own 0 rfl, HX.out.toBelow⟩
theorem sweep_skip {z : Nm} {l : List Nm} {s : Bool} {E : Dk} (h : begun z = false) : sweepD (z :: l) s E = sweepD l s E := by rw [sweepD, if_pos h]
theorem sweep_take {z : Nm} {l : List Nm} {s : Bool} {E : Dk} (h : ¬ begun z = false) (h1 : (removeD E z).1 = 0) : sweepD (z :: l) s E = sweepD l true (removeD E z).2 := by rw [sweepD, if_neg h, if_neg (by omega)]
theorem sweep_bad {z : Nm} {l : List Nm} {s : Bool} {E : Dk} (h : ¬ begun z = false) (h1 : ¬ (removeD E z).1 = 0) : sweepD (z :: l) s E = ((removeD E z).1, s, (removeD E z).2) := by rw [sweepD, if_neg h, if_pos h1]
/-- the store of a disk is opened -/
def SOpenR (N : Nat) (G : Nat → Prop) (r : Nat × Dk) (w : World) (e : Ending) (w' : World) : Prop :=
 (r.1 ≠ 0 ∧ e = .returned (.tuple #[.pointer none, errV r.1]) ∧ ∃ G', Sep w G [Asn.disk N r.2 G'] w') ∨
 (r.1 = 0 ∧ ∃ p G', e = .returned (.tuple #[ptrV p, .nilIface]) ∧ Sep w G [.box p [ptrV N] 244, Asn.disk N r.2 G'] w')
set_option maxHeartbeats 8000000 in
theorem sopen_any {m N : Nat} {D : Dk} {G : Nat → Prop} (w : World) (h : (Asn.disk N D G).holds w) (ho : Ok m D) (hm : m ≤ 536870912) (hp : D.pend.length ≤ 536870912) : Calls Tryz.prog 105 #[ptrV N] w (SOpenR N G (openD (namesOf D.shown) D) w) := by
 have HL := Zh (dlist_any w h ho (by omega))
 have HH := Lib.hid' h
 have hnl := names_len ho
 clear h
 cases hd : D.down with
 | true =>
  have HF := Zh (show openD (namesOf D.shown) D = (14, D) by unfold openD; rw [if_pos hd])
  have HG := Zh (show listDk D = (14, []) by unfold listDk; rw [if_pos hd])
  rw [HG.out] at HL
  clear hd
  go_enter Tryz.func105, Tryz.ntmps105
  go_wp2_with (go_at_call 163; refine HL.out.mono ?_; rintro e w1 ⟨a, c, rfl, hrow, hb⟩)
  go_ret2
  rw [HF.out]
  exact .inl ⟨by simp, rfl, G, (Sep.idle HH.out).below hb⟩
 | false =>
  have HG := Zh (show listDk D = (0, namesOf D.shown) by unfold listDk; rw [if_neg (by rw [hd]; decide)])
  have HF := Zh (show openD (namesOf D.shown) D = (if (sweepD (namesOf D.shown) false D).1 ≠ 0 then ((sweepD (namesOf D.shown) false D).1, (sweepD (namesOf D.shown) false D).2.2) else if (sweepD (namesOf D.shown) false D).2.1 = true then syncD (sweepD (namesOf D.shown) false D).2.2 else (0, (sweepD (namesOf D.shown) false D).2.2)) by unfold openD; rw [if_neg (by rw [hd]; decide)])
  rw [HG.out] at HL
  clear hd HG
  generalize namesOf D.shown = l at *
  go_enter Tryz.func105, Tryz.ntmps105
  go_upto_region 4 with (go_at_call 163; refine HL.out.mono ?_; rintro e w1 ⟨a, c, rfl, hrow, hb⟩; simp only [errV_0])
  have H := Zh (((Sep.idle HH.out).belowRow hb hrow).swap1)
  clear hrow hb HL HH
  have hl30 : l.length ≤ 536870912 := by omega
  clear hnl
  go_wp2_with fail
  go_loopw [24, 6] (fun v24 v6 wr => ∃ (k : Nat) (s : Bool) (Dk' : Dk) (Gk : Nat → Prop), v24 = .int .i64 (k : Nat) ∧ v6 = .bool s ∧ k ≤ l.length ∧ Hid (sweepD (l.drop k) s Dk' = sweepD l false D) ∧ Hid (Ok m Dk' ∧ Dk'.pend.length ≤ D.pend.length + k) ∧ Hid (Sep w G [Asn.disk N Dk' Gk, .row 9 1 (.slice a l.length c) l.length (strVs l)] wr)) (fun v24 _ _ => l.length - (intOf v24).toNat)
  case atStart => exact ⟨0, false, D, G, rfl, rfl, Nat.zero_le _, Lib.hid' rfl, Lib.hid' ⟨ho, Nat.le_refl _⟩, H⟩
  case round =>
   clear H ho
   obtain ⟨k, s, E, Gk, rfl, rfl, hk, HSW, HOK, HS⟩ := hrel
   by_cases hlt : k < l.length
   ·have hlt' : (k : Int) < (l.length : Int) := by omega
    have H0 := HS.out
    obtain ⟨bb, off, cap, he, hbb, d0⟩ := str_at (H0.row 1 rfl) rfl hlt
    simp only [Value.slice.injEq, true_and] at he
    obtain ⟨rfl, rfl⟩ := he
    have hsw := HSW.out
    rw [List.drop_eq_getElem_cons hlt] at hsw
    have hpe := HOK.out.2
    have HRM := Zh (remove_any l[k] wr (H0.at 0 rfl) HOK.out.1 (by omega))
    have HO2 := Zh (HOK.out.1.remove l[k])
    have HPE := Zh (pend_remove E l[k])
    clear H0 HSW
    generalize l[k] = z at *
    cases hg : begun z with
    | false =>
     have HSW2 := Zh (show sweepD (l.drop (k + 1)) s E = sweepD l false D by rw [← hsw, sweep_skip hg])
     have HPX := Zh (show ∀ w : World, Calls Tryz.prog 164 #[.string z, .string ⟨#[126]⟩] w fun e w' => e = .returned (.bool false) ∧ w' = w from fun w => by have := hasPrefix_any z ⟨#[126]⟩ w; rwa [show Go.Lib.hasPrefix z.data.toList [126] = false from (begun_is z).trans hg] at this)
     clear hsw
     go_wp2_with (go_at_call 164; refine (HPX.out _).mono ?_; rintro e w3 ⟨rfl, rfl⟩)
     go_roundw
     case rel => exact ⟨k + 1, s, E, Gk, by go_num, rfl, by omega, HSW2, Lib.hid' ⟨HOK.out.1, by omega⟩, HS⟩
     case measure => simp [intOf]; omega
    | true =>
     have HPX := Zh (show ∀ w : World, Calls Tryz.prog 164 #[.string z, .string ⟨#[126]⟩] w fun e w' => e = .returned (.bool true) ∧ w' = w from fun w => by have := hasPrefix_any z ⟨#[126]⟩ w; rwa [show Go.Lib.hasPrefix z.data.toList [126] = true from (begun_is z).trans hg] at this)
     have hgn : ¬ begun z = false := by rw [hg]; decide
     by_cases h1 : (removeD E z).1 = 0
     ·have HSW2 := Zh (show sweepD (l.drop (k + 1)) true (removeD E z).2 = sweepD l false D by rw [← hsw, sweep_take hgn h1])
      have H1 := Lib.hid' h1
      clear hsw h1 hgn
      go_wp2_with (first | (go_at_call 164; refine (HPX.out _).mono ?_; rintro e w3 ⟨rfl, rfl⟩) | (go_at_call 165; refine HRM.out.mono ?_; rintro e w4 ⟨rfl, G4, hk4⟩; rw [H1.out, errV_0]))
      go_roundw
      case rel => exact ⟨k + 1, true, (removeD E z).2, G4, by go_num, rfl, by omega, HSW2, Lib.hid' ⟨HO2.out, by have := HPE.out; omega⟩, Zh (HS.out.call hk4)⟩
      case measure => simp [intOf]; omega
     ·have HSW2 := Zh (show sweepD l false D = ((removeD E z).1, s, (removeD E z).2) by rw [← hsw, sweep_bad hgn h1])
      have H1 := Lib.hid' h1
      clear hsw h1 hgn
      go_wp2_with (first | (go_at_call 164; refine (HPX.out _).mono ?_; rintro e w3 ⟨rfl, rfl⟩) | (go_at_call 165; refine HRM.out.mono ?_; rintro e w4 ⟨rfl, G4, hk4⟩; rw [errV_pos H1.out]))
      go_ret2
      rw [HF.out, HSW2.out, if_pos H1.out]
      exact .inl ⟨H1.out, by rw [errV_pos H1.out]; rfl, G4, (HS.out.call hk4).keepOnly (by simp)⟩
   ·obtain rfl : k = l.length := by omega
    have HE := Zh (show sweepD l false D = (0, s, E) by have := HSW.out; rw [List.drop_length] at this; exact this.symm)
    have HS2 := Zh ((HS.out).drop 1)
    clear HSW HS hlt hk
    cases s with
    | false =>
     go_wp2_with fail
     go_ret2
     rw [HF.out, HE.out, if_neg (by simp), if_neg (by simp)]
     exact .inr ⟨rfl, _, Gk, rfl, HS2.out.alloc [ptrV N] 244⟩
    | true =>
     have HSY := Zh (sync_any wr (HS2.out.at 0 rfl) HOK.out.1)
     have HF2 := Zh (show openD l D = syncD E by rw [HF.out, HE.out, if_neg (by simp), if_pos rfl])
     by_cases h1 : (syncD E).1 = 0
     ·have H1 := Lib.hid' h1
      clear h1
      go_wp2_with (go_at_call 142; refine HSY.out.mono ?_; rintro e w4 ⟨rfl, G4, hk4⟩; rw [H1.out, errV_0])
      go_ret2
      rw [HF2.out]
      exact .inr ⟨H1.out, _, G4, rfl, (HS2.out.call hk4).alloc [ptrV N] 244⟩
     ·have H1 := Lib.hid' h1
      clear h1
      go_wp2_with (go_at_call 142; refine HSY.out.mono ?_; rintro e w4 ⟨rfl, G4, hk4⟩; rw [errV_pos H1.out])
      go_ret2
      rw [HF2.out]
      exact .inl ⟨H1.out, by rw [errV_pos H1.out]; rfl, G4, HS2.out.call hk4⟩
end DK
end Go.Proofs.YtpckcpmohcianaaGreatDoor

namespace Go.Proofs.YtpckcpmohcianaaGreatDoor
open Go.RowKit
namespace DK
abbrev fV (p : Nm × List UInt8) : List Value := [.string p.1, .string (strOf p.2)]
abbrev fvs (l : Fl) : List Value := l.flatMap fV
theorem fvs_app (l k : Fl) : fvs (l ++ k) = fvs l ++ fvs k := List.flatMap_append ..
theorem etFl : ElemT Tryz.prog 120 273 2 32 := ElemT.mk' (z := .agg #[.string ⟨#[]⟩, .string ⟨#[]⟩]) Tryz.underlying120 (by kernel_rfl) rfl (by decide) (by decide)
/-- files in a row, not to be written -/
def FsW (w : World) (a : Option Addr) (c : Nat) (l : Fl) : Prop := SlV w (.slice a l.length c) l.length (fvs l)
theorem FsW.get {w : World} {a : Option Addr} {c : Nat} {l : Fl} (h : FsW w a c l) {k : Nat} (hk : k < l.length) :
  ∃ b off, a = some ⟨b, off, none⟩ ∧ b < w.heap.size ∧ w.cell? ⟨b, off + k * 2, none⟩ = some (.string l[k].1) ∧ w.cell? ⟨b, off + k * 2 + 1, none⟩ = some (.string (strOf l[k].2)) := by
 obtain ⟨b, off, he, hb, hc⟩ := SlV.row (f := fV) (s := 2) (fun _ => rfl) (by decide) h hk
 exact ⟨b, off, he, hb, hc 0 _ rfl, hc 1 _ rfl⟩
theorem FsW.sep {w0 w : World} {L : List Asn} {a : Option Addr} {c : Nat} {l : Fl} (h : FsW w0 a c l) (H : Sep w0 NoF L w) : FsW w a c l := SlV.below h (Nat.le_refl _) H.toBelow
theorem FsW.below {w0 w : World} {a : Option Addr} {c : Nat} {l : Fl} (h : FsW w0 a c l) (H : Below w0.heap.size w0 w) : FsW w a c l := SlV.below h (Nat.le_refl _) H
theorem FsW.len {w : World} {a : Option Addr} {c : Nat} {l : Fl} (h : FsW w a c l) : l.length ≤ 9223372036854775807 := by
 obtain ⟨_, _, he, h1, h2, _⟩ := h; cases he; unfold maxLen at h2; omega
theorem tkS {α : Type} (L : List α) {k : Nat} (hk : k < L.length) : L.take (k + 1) = L.take k ++ [L[k]] := by
 rw [List.take_add_one, List.getElem?_eq_getElem hk]; rfl
theorem nm_eq (a b : Nm) : (ByteArray.toList a == ByteArray.toList b) = decide (a = b) := by
 by_cases h : a = b
 ·subst h; simp
 ·have : ByteArray.toList a ≠ ByteArray.toList b := fun e => h (by rw [ba_toList, ba_toList] at e; cases a; cases b; exact congrArg ByteArray.mk (Array.toList_inj.1 e))
  rw [decide_eq_false h]; simpa using this
theorem gt_yes {a b : Nm} (h : less a b = true) : Go.Op.bytesLess (ByteArray.toList b) (ByteArray.toList a) = false ∧ (ByteArray.toList b == ByteArray.toList a) = false := by
 constructor
 ·cases h2 : Go.Op.bytesLess (ByteArray.toList b) (ByteArray.toList a) with
  | false => rfl
  | true => have := less_strict.tr a b a h h2; rw [less_strict.irr] at this; cases this
 ·rw [nm_eq, decide_eq_false]
  rintro rfl
  rw [less_strict.irr] at h; cases h
theorem gt_no {a b : Nm} (h : less a b = false) : Go.Op.bytesLess (ByteArray.toList b) (ByteArray.toList a) = true ∨ (Go.Op.bytesLess (ByteArray.toList b) (ByteArray.toList a) = false ∧ (ByteArray.toList b == ByteArray.toList a) = true) := by
 by_cases he : b = a
 ·subst he
  exact .inr ⟨less_strict.irr _, by rw [nm_eq, decide_eq_true rfl]⟩
 ·rcases less_strict.tot b a he with h2 | h2
  ·exact .inl h2
  ·rw [h2] at h; cases h
def findI (l : Fl) (n : Nm) : Int := match l.findIdx? (·.1 == n) with
 | some i => (i : Int)
 | none => -1
theorem findI_at {l : Fl} {n : Nm} {k : Nat} (hk : k < l.length) (h : ∀ p ∈ l.take k, p.1 ≠ n) (he : l[k].1 = n) : findI l n = k := by
 unfold findI
 rw [List.findIdx?_eq_some_iff_getElem.2 ⟨hk, by simpa using he, fun j hj => by
  have := h l[j] (List.mem_take_iff_getElem.2 ⟨j, by omega, rfl⟩)
  simpa using this⟩]
theorem findI_no {l : Fl} {n : Nm} (h : ∀ p ∈ l, p.1 ≠ n) : findI l n = -1 := by
 unfold findI
 rw [List.findIdx?_eq_none_iff.2 (fun p hp => by simpa using h p hp)]
set_option maxHeartbeats 2000000 in
theorem rfind_any (l : Fl) (a : Option Addr) (c : Nat) (n : Nm) (w : World) (h : FsW w a c l) :
  Calls Tryz.prog 175 #[.slice a l.length c, .string n] w fun e w' => e = .returned (.int .i64 (findI l n)) ∧ w = w' := by
 have H := Lib.hid' h
 have hll := h.len
 clear h
 go_enter Tryz.func175, Tryz.ntmps175
 go_wp2_with fail
 go_loopw [5] (fun v5 wr => ∃ k : Nat, v5 = .int .i64 k ∧ k ≤ l.length ∧ Hid (∀ p ∈ l.take k, p.1 ≠ n) ∧ Hid (w = wr)) (fun v5 _ => l.length - (intOf v5).toNat)
 case atStart => exact ⟨0, rfl, Nat.zero_le _, Zh (by simp), Lib.hid' rfl⟩
 case round =>
  obtain ⟨k, rfl, hk, HN, HW⟩ := hrel
  have hww := HW.out
  subst hww
  by_cases hlt : k < l.length
  ·obtain ⟨b, off, rfl, hb, c0, c1⟩ := H.out.get hlt
   have HTK := Zh (tkS l hlt)
   have HF := Zh (fun he => findI_at (n := n) hlt HN.out he)
   generalize l[k] = p at *
   have hq := nm_eq p.1 n
   by_cases he : p.1 = n
   ·rw [decide_eq_true he] at hq
    have HR := Zh (HF.out he)
    go_wp2_with fail
    go_ret
    rw [HR.out]
    exact ⟨rfl, rfl⟩
   ·have HN2 := Zh (show ∀ q ∈ l.take (k + 1), q.1 ≠ n from fun q hq => by
     rw [HTK.out] at hq
     rcases List.mem_append.1 hq with hq | hq
     ·exact HN.out q hq
     ·rw [List.mem_singleton.1 hq]; exact he)
    rw [decide_eq_false he] at hq
    go_wp2_with fail
    go_roundw
    case rel => exact ⟨k + 1, by go_num, by omega, HN2, Lib.hid' trivial⟩
    case measure => simp [intOf]; omega
  ·have hkn : k = l.length := by omega
   have HR := Zh (show findI l n = -1 from findI_no (by have := HN.out; rwa [List.take_of_length_le (by omega)] at this))
   go_wp2_with fail
   go_ret
   rw [HR.out]
   exact ⟨rfl, rfl⟩
set_option maxHeartbeats 2000000 in
theorem rused_any (l : Fl) (a : Option Addr) (c : Nat) (w : World) (h : FsW w a c l) (hd : ∀ p ∈ l, p.2.length ≤ 65536) (hl : l.length ≤ 4194304) :
  Calls Tryz.prog 186 #[.slice a l.length c] w fun e w' => e = .returned (.int .i64 (usedF l : Nat)) ∧ w = w' := by
 have H := Lib.hid' h
 have HD := Lib.hid' hd
 clear h hd
 go_enter Tryz.func186, Tryz.ntmps186
 go_wp2_with fail
 go_loopw [3, 4] (fun v3 v4 wr => ∃ k m : Nat, v3 = .int .i64 m ∧ v4 = .int .i64 k ∧ k ≤ l.length ∧ Hid (m = usedF (l.take k)) ∧ m ≤ 65536 * k ∧ Hid (w = wr)) (fun _ v4 _ => l.length - (intOf v4).toNat)
 case atStart => exact ⟨0, 0, rfl, rfl, Nat.zero_le _, Lib.hid' rfl, Nat.zero_le _, Lib.hid' rfl⟩
 case round =>
  obtain ⟨k, m, rfl, rfl, hk, HM, hm, HW⟩ := hrel
  have hww := HW.out
  subst hww
  by_cases hlt : k < l.length
  ·obtain ⟨b, off, rfl, hb, c0, c1⟩ := H.out.get hlt
   have HTK := Zh (tkS l hlt)
   have hpd := HD.out _ (List.getElem_mem hlt)
   generalize l[k] = p at *
   have hsz := strOf_size p.2
   have HM2 := Zh (show m + p.2.length = usedF (l.take (k + 1)) by rw [HTK.out, HM.out]; simp [usedF])
   go_wp2_with fail
   go_roundw
   case rel => exact ⟨k + 1, m + p.2.length, by go_num, by go_num, by omega, HM2, by omega, Lib.hid' trivial⟩
   case measure => simp [intOf]; omega
  ·have hkn : k = l.length := by omega
   have HR := Zh (show usedF l = m by rw [HM.out, hkn, List.take_length])
   go_wp2_with fail
   go_ret
   rw [HR.out]
   exact ⟨rfl, rfl⟩
theorem delF_succ (l : Fl) (n : Nm) {k : Nat} (h : k < l.length) : delF (l.take (k + 1)) n = delF (l.take k) n ++ (if l[k].1 = n then [] else [l[k]]) := by
 unfold delF
 rw [List.take_add_one, List.getElem?_eq_getElem h, List.filter_append]
 simp only [Option.toList_some]
 congr 1
 by_cases hb : l[k].1 = n
 ·rw [if_pos hb, List.filter_cons_of_neg (by simpa using hb)]; rfl
 ·rw [if_neg hb, List.filter_cons_of_pos (by simpa using hb)]; rfl
set_option maxHeartbeats 2000000 in
theorem rwithout_any (l : Fl) (a : Option Addr) (c : Nat) (n : Nm) (w : World) (h : FsW w a c l) (hl : l.length ≤ 4194304) :
  Calls Tryz.prog 276 #[.slice a l.length c, .string n] w (OwnR w.heap.size 273 2 (delF l n).length (fvs (delF l n)) w) := by
 have H := Lib.hid' h
 clear h
 go_enter Tryz.func276, Tryz.ntmps276
 go_wp2_with fail
 have H0 := Zh ((Sep.start w).newRow 273 2)
 go_loopw [5, 6] (fun v5 v6 wr => ∃ (k : Nat) (O : Fl) (oa : Option Addr) (oc : Nat), v5 = .slice oa O.length oc ∧ v6 = .int .i64 k ∧ k ≤ l.length ∧ O.length ≤ k ∧ Hid (O = delF (l.take k) n) ∧ Hid (Sep w NoF [.row 273 2 (.slice oa O.length oc) O.length (fvs O)] wr)) (fun _ v6 _ => l.length - (intOf v6).toNat)
 case atStart => exact ⟨0, [], _, _, rfl, rfl, Nat.zero_le _, Nat.le_refl _, Lib.hid' rfl, H0⟩
 case round =>
  clear H0
  obtain ⟨k, O, oa, oc, rfl, rfl, hk, hok, HO, HS⟩ := hrel
  by_cases hlt : k < l.length
  ·obtain ⟨b, off, rfl, hb, c0, c1⟩ := (H.out.sep HS.out).get hlt
   have HTK := Zh (delF_succ l n hlt)
   rw [← HO.out] at HTK
   have hS := HS.out
   clear HS
   generalize l[k] = p at *
   have hq := nm_eq p.1 n
   by_cases he : p.1 = n
   ·rw [decide_eq_true he] at hq
    rw [if_pos he, List.append_nil] at HTK
    go_wp2_with fail
    go_roundw
    case rel => exact ⟨k + 1, O, oa, oc, rfl, by go_num, by omega, by omega, Lib.hid' HTK.out.symm, Lib.hid' hS⟩
    case measure => simp [intOf]; omega
   ·rw [decide_eq_false he] at hq
    rw [if_neg he] at HTK
    go_wp2_with (at_builtin; refine Sep.append etFl rfl (.tmp 21) (.tmp 26) rfl [.string p.1, .string (strOf p.2)] rfl hS 0 rfl rfl rfl (by simp [Value.oneCell']) (by omega) ?_; intro a7 c7 w7 H7)
    have H8 := Zh (show Sep w NoF [.row 273 2 (.slice a7 (O ++ [p]).length c7) (O ++ [p]).length (fvs (O ++ [p]))] w7 by rw [fvs_app, List.length_append]; exact H7)
    clear H7 hS
    go_roundw
    case rel => exact ⟨k + 1, O ++ [p], a7, c7, by simp, by go_num, by omega, by simp; omega, Lib.hid' HTK.out.symm, H8⟩
    case measure => simp [intOf]; omega
  ·have hkn : k = l.length := by omega
   have HR := Zh (show delF l n = O by rw [HO.out, hkn, List.take_length])
   go_wp2_with fail
   go_ret
   rw [HR.out]
   exact ⟨oa, oc, rfl, (HS.out.own 0 rfl), HS.out.toBelow⟩
theorem insR_no {f : Nm × List UInt8} : ∀ {L K : Fl}, (∀ p ∈ L, less f.1 p.1 = false) → insR less f (L ++ K) = L ++ insR less f K
 | [], K, _ => rfl
 | x :: L, K, h => by
  have h1 := h x List.mem_cons_self
  have ih := insR_no (f := f) (L := L) (K := K) (fun p hp => h p (List.mem_cons_of_mem _ hp))
  show (if less f.1 x.1 = true then f :: x :: (L ++ K) else x :: insR less f (L ++ K)) = _
  rw [if_neg (by rw [h1]; decide), ih]; rfl
theorem insR_yes {f : Nm × List UInt8} : ∀ {L K : Fl}, (∃ p ∈ L, less f.1 p.1 = true) → insR less f (L ++ K) = insR less f L ++ K
 | [], K, h => by obtain ⟨p, hp, _⟩ := h; cases hp
 | x :: L, K, h => by
  show (if less f.1 x.1 = true then f :: x :: (L ++ K) else x :: insR less f (L ++ K)) = (if less f.1 x.1 = true then f :: x :: L else x :: insR less f L) ++ K
  by_cases h1 : less f.1 x.1 = true
  ·rw [if_pos h1, if_pos h1]; rfl
  ·rw [if_neg h1, if_neg h1, insR_yes (by
    obtain ⟨p, hp, hq⟩ := h
    rcases List.mem_cons.1 hp with rfl | hp
    ·exact absurd hq h1
    ·exact ⟨p, hp, hq⟩)]; rfl
/-- what 'with' has gathered behind k rounds -/
def WithF (f : Nm × List UInt8) (L : Fl) (put : Bool) (O : Fl) : Prop :=
 (put = false ∧ O = L ∧ ∀ p ∈ L, less f.1 p.1 = false) ∨ (put = true ∧ O = insR less f L ∧ ∃ p ∈ L, less f.1 p.1 = true)
theorem WithF.old {f x : Nm × List UInt8} {L O : Fl} (h : WithF f L true O) : WithF f (L ++ [x]) true (O ++ [x]) := by
 rcases h with ⟨h, _⟩ | ⟨_, rfl, h⟩
 ·cases h
 ·exact .inr ⟨rfl, (insR_yes h).symm, by obtain ⟨p, hp, hq⟩ := h; exact ⟨p, List.mem_append_left _ hp, hq⟩⟩
theorem WithF.skip {f x : Nm × List UInt8} {L O : Fl} (h : WithF f L false O) (hx : less f.1 x.1 = false) : WithF f (L ++ [x]) false (O ++ [x]) := by
 rcases h with ⟨_, rfl, h⟩ | ⟨h, _⟩
 ·exact .inl ⟨rfl, rfl, fun p hp => by rcases List.mem_append.1 hp with hp | hp; exact h p hp; rw [List.mem_singleton.1 hp]; exact hx⟩
 ·cases h
theorem WithF.now {f x : Nm × List UInt8} {L O : Fl} (h : WithF f L false O) (hx : less f.1 x.1 = true) : WithF f (L ++ [x]) true (O ++ [f] ++ [x]) := by
 rcases h with ⟨_, rfl, h⟩ | ⟨h, _⟩
 ·refine .inr ⟨rfl, ?_, x, by simp, hx⟩
  rw [insR_no h]
  unfold insR
  rw [if_pos hx]; simp
 ·cases h
theorem WithF.end1 {f : Nm × List UInt8} {L O : Fl} (h : WithF f L true O) : O = insR less f L := by
 rcases h with ⟨h, _⟩ | ⟨_, h, _⟩
 ·cases h
 ·exact h
theorem WithF.end0 {f : Nm × List UInt8} {L O : Fl} (h : WithF f L false O) : O ++ [f] = insR less f L := by
 rcases h with ⟨_, rfl, h⟩ | ⟨h, _⟩
 ·have := insR_no (K := []) h
  rw [List.append_nil] at this; rw [this]; rfl
 ·cases h
theorem WithF.len {f : Nm × List UInt8} {L O : Fl} {put : Bool} (h : WithF f L put O) : O.length ≤ L.length + 1 := by
 rcases h with ⟨_, rfl, _⟩ | ⟨_, rfl, _⟩
 ·omega
 ·rw [insR_len]; omega
set_option maxHeartbeats 4000000 in
theorem rwith_any (l : Fl) (a : Option Addr) (c : Nat) (n : Nm) (d : List UInt8) (w : World) (h : FsW w a c l) (hl : l.length ≤ 4194304) :
  Calls Tryz.prog 275 #[.slice a l.length c, .agg #[.string n, .string (strOf d)]] w (OwnR w.heap.size 273 2 (insR less (n, d) (delF l n)).length (fvs (insR less (n, d) (delF l n))) w) := by
 have H := Lib.hid' h
 have hdl := delF_len l n
 have h1 := ((Sep.start w).allocAt w.heap.size [.string n, .string (strOf d)] 273 rfl).newRowAt (w.heap.size + 1) 273 2 (by simp)
 have HWO := Zh (rwithout_any l a c n _ (h.sep h1) hl)
 have H1 := Lib.hid' h1
 have k0 := h1.cell 1 rfl 0 rfl
 clear h h1
 go_enter Tryz.func275, Tryz.ntmps275
 go_wp2_with (go_at_call 276; refine HWO.out.mono ?_; rintro e w2 ⟨a2, c2, rfl, ho, hb⟩)
 clear HWO
 generalize delF l n = L at *
 have H2 := Zh ((H1.out.belowRow hb ho).perm (List.Perm.swap _ _ _))
 clear H1 k0 hb ho
 go_wp2_with fail
 go_loopw [5, 6, 15] (fun v5 v6 v15 wr => ∃ (k : Nat) (put : Bool) (O : Fl) (oa : Option Addr) (oc : Nat), v5 = .slice oa O.length oc ∧ v6 = .bool put ∧ v15 = .int .i64 k ∧ k ≤ L.length ∧ Hid (WithF (n, d) (L.take k) put O) ∧ Hid (Sep w NoF [.row 273 2 (.slice oa O.length oc) O.length (fvs O), .row 273 2 (.slice a2 L.length c2) L.length (fvs L), .box w.heap.size [.string n, .string (strOf d)] 273] wr)) (fun _ _ v15 _ => L.length - (intOf v15).toNat)
 case atStart => exact ⟨0, false, [], _, _, rfl, rfl, rfl, Nat.zero_le _, Zh (.inl ⟨rfl, rfl, by simp⟩), H2⟩
 case round =>
  clear H2
  obtain ⟨k, put, O, oa, oc, rfl, rfl, rfl, hk, HW, HS⟩ := hrel
  have hol : O.length ≤ k + 1 := by have := HW.out.len; rw [List.length_take] at this; omega
  by_cases hlt : k < L.length
  ·obtain ⟨b, off, rfl, hb, c0, c1⟩ := (show FsW wr a2 c2 L from SlV.of_own (HS.out.row 1 rfl)).get hlt
   have HTK := Zh (tkS L hlt)
   have HO1 := Zh (fun h => HW.out |> fun (q : WithF (n, d) (L.take k) put O) => (show put = true → WithF (n, d) (L.take k ++ [L[k]]) true (O ++ [L[k]]) from fun e => by subst e; exact q.old) h)
   have HO2 := Zh (fun (h : put = false) (hx : less n L[k].1 = false) => show WithF (n, d) (L.take k ++ [L[k]]) false (O ++ [L[k]]) by subst h; exact HW.out.skip hx)
   have HO3 := Zh (fun (h : put = false) (hx : less n L[k].1 = true) => show WithF (n, d) (L.take k ++ [L[k]]) true (O ++ [(n, d)] ++ [L[k]]) by subst h; exact HW.out.now hx)
   rw [← HTK.out] at HO1 HO2 HO3
   have h1 := (HS.out.allocAt wr.heap.size [.string L[k].1, .string (strOf L[k].2)] 273 rfl)
   clear HS HW HTK
   generalize L[k] = x at *
   have d0 := h1.cell 3 rfl 0 rfl; have d1 := h1.cell 3 rfl 1 rfl; have e0 := h1.cell 0 rfl 0 rfl; have e1 := h1.cell 0 rfl 1 rfl; have tl := h1.lt 0 rfl; have sl := h1.lt 3 rfl
   go_upto_region 6 with fail
   generalize wr.alloc (.cells #[.string x.1, .string (strOf x.2)] 273) = w5 at *
   generalize wr.heap.size = N5 at *
   cases put with
   | true =>
    go_wp2_with (at_builtin; refine Sep.append etFl rfl (.tmp 32) (.tmp 34) rfl [.string x.1, .string (strOf x.2)] rfl h1 1 rfl rfl rfl (by simp [Value.oneCell']) (by omega) ?_; intro a7 c7 w7 H7)
    have H8 := Zh (show Sep w NoF [.row 273 2 (.slice a7 (O ++ [x]).length c7) (O ++ [x]).length (fvs (O ++ [x])), _, _] w7 by rw [fvs_app, List.length_append]; exact H7.drop 1)
    clear H7 h1
    go_roundw
    case rel => exact ⟨k + 1, true, O ++ [x], a7, c7, by simp, rfl, by go_num, by omega, Zh (HO1.out rfl), H8⟩
    case measure => simp [intOf]; omega
   | false =>
    cases hx : less n x.1 with
    | false =>
     have hgt := gt_no hx
     have HW2 := Zh (HO2.out rfl hx)
     clear hx
     rcases hgt with h3 | ⟨h3, h4⟩
     all_goals
      go_wp2_with (at_builtin; refine Sep.append etFl rfl (.tmp 32) (.tmp 34) rfl [.string x.1, .string (strOf x.2)] rfl h1 1 rfl rfl rfl (by simp [Value.oneCell']) (by omega) ?_; intro a7 c7 w7 H7)
      have H8 := Zh (show Sep w NoF [.row 273 2 (.slice a7 (O ++ [x]).length c7) (O ++ [x]).length (fvs (O ++ [x])), _, _] w7 by rw [fvs_app, List.length_append]; exact H7.drop 1)
      clear H7 h1
      go_roundw
      case rel => exact ⟨k + 1, false, O ++ [x], a7, c7, by simp, rfl, by go_num, by omega, HW2, H8⟩
      case measure => simp [intOf]; omega
    | true =>
     obtain ⟨h3, h4⟩ := gt_yes hx
     have HW2 := Zh (HO3.out rfl hx)
     clear hx
     go_wp2_with (first | (at_builtin; refine Sep.append etFl rfl (.tmp 28) (.tmp 30) rfl [.string n, .string (strOf d)] rfl h1 1 rfl rfl rfl (by simp [Value.oneCell']) (by omega) ?_; intro a7 c7 w7 H7; have g0 := H7.cell 1 rfl 0 rfl; have g1 := H7.cell 1 rfl 1 rfl) | (at_builtin; refine Sep.append etFl rfl (.tmp 32) (.tmp 34) rfl [.string x.1, .string (strOf x.2)] rfl H7 0 rfl rfl rfl (by simp [Value.oneCell']) (by omega) ?_; intro a9 c9 w9 H9))
     have H8 := Zh (show Sep w NoF [.row 273 2 (.slice a9 (O ++ [(n, d)] ++ [x]).length c9) (O ++ [(n, d)] ++ [x]).length (fvs (O ++ [(n, d)] ++ [x])), _, _] w9 by rw [fvs_app, fvs_app, List.length_append, List.length_append]; exact H9.drop 1)
     clear H7 H9 h1
     go_roundw
     case rel => exact ⟨k + 1, true, O ++ [(n, d)] ++ [x], a9, c9, by simp, rfl, by go_num, by omega, HW2, H8⟩
     case measure => simp [intOf]; omega
  ·have hkn : k = L.length := by omega
   cases put with
   | true =>
    have HR := Zh (show O = insR less (n, d) L by have := HW.out; rw [hkn, List.take_length] at this; exact this.end1)
    go_wp2_with fail
    go_ret
    rw [← HR.out]
    exact ⟨oa, oc, rfl, (HS.out.own 0 rfl), HS.out.toBelow⟩
   | false =>
    have HR := Zh (show O ++ [(n, d)] = insR less (n, d) L by have := HW.out; rw [hkn, List.take_length] at this; exact this.end0)
    have h1 := HS.out
    have d0 := h1.cell 2 rfl 0 rfl; have d1 := h1.cell 2 rfl 1 rfl; have sl := h1.lt 2 rfl
    clear HS
    go_wp2_with (at_builtin; refine Sep.append etFl rfl (.tmp 39) (.tmp 41) rfl [.string n, .string (strOf d)] rfl h1 0 rfl rfl rfl (by simp [Value.oneCell']) (by omega) ?_; intro a7 c7 w7 H7)
    go_ret
    rw [← HR.out]
    exact ⟨a7, c7, by rw [List.length_append]; rfl, by rw [fvs_app, List.length_append]; exact H7.own 0 rfl, H7.toBelow⟩
end DK
end Go.Proofs.YtpckcpmohcianaaGreatDoor

namespace Go.Proofs.YtpckcpmohcianaaGreatDoor
open Go.RowKit
namespace DK
/-- a row that is only read, outside the blocks K -/
def RowK (K : Nat → Prop) (w : World) (v : Value) (n : Nat) (cs : List Value) : Prop := SlV w v n cs ∧ (cs ≠ [] → SlIn (fun b => ¬ K b) v)
theorem RowK.below {K : Nat → Prop} {w w' : World} {v : Value} {n : Nat} {cs : List Value} (h : RowK K w v n cs) (hb : Below w.heap.size w w') : RowK K w' v n cs := ⟨SlV.below h.1 (Nat.le_refl _) hb, h.2⟩
theorem RowK.ofOwn {K : Nat → Prop} {w : World} {B e size : Nat} {v : Value} {n : Nat} {xs : List Value} (h : w.ownsRow B e size v n xs) (hK : ∀ b, K b → b < B) : RowK K w v n xs :=
 ⟨SlV.of_own h, fun _ p n c e hp => by
  subst e
  have := (own_blk h (b := p.block) rfl).1
  have := hK _ hp
  omega⟩
theorem RowK.fr {K G : Nat → Prop} {w w' : World} {v : Value} {n : Nat} {cs : List Value} (h : RowK K w v n cs) (hf : Fr G w w') (hG : ∀ b, G b → K b) : RowK K w' v n cs := by
 refine ⟨?_, h.2⟩
 by_cases hc : cs = []
 ·subst hc
  obtain ⟨a, c, rfl, h1, h2, h3, h4⟩ := h.1
  exact ⟨a, c, rfl, h1, h2, h3, fun j u hu => by simp at hu⟩
 ·exact h.1.fr hf (fun p n c e hp => h.2 hc p n c e (hG _ hp))
theorem RowK.more {K K' : Nat → Prop} {w : World} {v : Value} {n : Nat} {cs : List Value} (h : RowK K w v n cs) (hK : ∀ b, K' b → K b ∨ w.heap.size ≤ b) : RowK K' w v n cs :=
 ⟨h.1, fun hc p n c e hp => by
  rcases hK _ hp with h1 | h1
  ·exact h.2 hc p n c e h1
  ·have := h.1.bound hc p n c e; omega⟩
theorem RowK.nil (K : Nat → Prop) (w : World) : RowK K w (.slice none 0 0) 0 [] := ⟨SlV.empty w none 0 (by unfold maxLen; omega) (fun _ => rfl), fun h => absurd rfl h⟩
abbrev FsK (K : Nat → Prop) (w : World) (a : Option Addr) (c : Nat) (l : Fl) : Prop := RowK K w (.slice a l.length c) l.length (fvs l)
abbrev cV (c : Chg) : List Value := [.int .i64 (c.kind : Nat), .string c.name, .string c.to, .string (strOf c.d)]
abbrev cvs (l : List Chg) : List Value := l.flatMap cV
theorem cvs_one (l : List Chg) : ∀ u ∈ cvs l, u.oneCell' = true := by
 intro u hu
 obtain ⟨p, _, hp⟩ := List.mem_flatMap.1 hu
 simp only [List.mem_cons, List.not_mem_nil, or_false] at hp
 rcases hp with rfl | rfl | rfl | rfl <;> rfl
theorem cvs_app (l k : List Chg) : cvs (l ++ k) = cvs l ++ cvs k := List.flatMap_append ..
theorem etCh : ElemT Tryz.prog 121 277 4 56 := ElemT.mk' (z := .agg #[.int .i64 0, .string ⟨#[]⟩, .string ⟨#[]⟩, .string ⟨#[]⟩]) Tryz.underlying121 (by kernel_rfl) rfl (by decide) (by decide)
abbrev ChK (K : Nat → Prop) (w : World) (a : Option Addr) (c : Nat) (l : List Chg) : Prop := RowK K w (.slice a l.length c) l.length (cvs l)
theorem ch_get {w : World} {a : Option Addr} {c : Nat} {l : List Chg} (h : SlV w (.slice a l.length c) l.length (cvs l)) {k : Nat} (hk : k < l.length) :
  ∃ b off, a = some ⟨b, off, none⟩ ∧ b < w.heap.size ∧ w.cell? ⟨b, off + k * 4, none⟩ = some (.int .i64 (l[k].kind : Nat)) ∧ w.cell? ⟨b, off + k * 4 + 1, none⟩ = some (.string l[k].name) ∧ w.cell? ⟨b, off + k * 4 + 2, none⟩ = some (.string l[k].to) ∧ w.cell? ⟨b, off + k * 4 + 3, none⟩ = some (.string (strOf l[k].d)) := by
 obtain ⟨b, off, he, hb, hc⟩ := SlV.row (f := cV) (s := 4) (fun _ => rfl) (by decide) h hk
 exact ⟨b, off, he, hb, hc 0 _ rfl, hc 1 _ rfl, hc 2 _ rfl, hc 3 _ rfl⟩
/-- the document's disk as a value -/
abbrev rdkV (R : Rk) (a : Option Addr) (c : Nat) (x : Option Addr) (y : Nat) : Value := .agg #[.int .i64 R.room, .slice a R.sure.length c, .slice x R.ch.length y, .int .i64 R.fuse, .bool R.down]
def RdkK (K : Nat → Prop) (w : World) (R : Rk) (a : Option Addr) (c : Nat) (x : Option Addr) (y : Nat) : Prop := FsK K w a c R.sure ∧ ChK K w x y R.ch
theorem RdkK.below {K : Nat → Prop} {w w' : World} {R : Rk} {a : Option Addr} {c : Nat} {x : Option Addr} {y : Nat} (h : RdkK K w R a c x y) (hb : Below w.heap.size w w') : RdkK K w' R a c x y := ⟨h.1.below hb, h.2.below hb⟩
theorem RdkK.fr {K G : Nat → Prop} {w w' : World} {R : Rk} {a : Option Addr} {c : Nat} {x : Option Addr} {y : Nat} (h : RdkK K w R a c x y) (hf : Fr G w w') (hG : ∀ b, G b → K b) : RdkK K w' R a c x y := ⟨h.1.fr hf hG, h.2.fr hf hG⟩
theorem RdkK.more {K K' : Nat → Prop} {w : World} {R : Rk} {a : Option Addr} {c : Nat} {x : Option Addr} {y : Nat} (h : RdkK K w R a c x y) (hK : ∀ b, K' b → K b ∨ w.heap.size ≤ b) : RdkK K' w R a c x y := ⟨h.1.more hK, h.2.more hK⟩
/-- how many files and changes there may be, and how long they are -/
structure RkB (n : Nat) (R : Rk) : Prop where
 few : R.sure.length + R.ch.length ≤ n
 sure : ∀ p ∈ R.sure, p.2.length ≤ 65536
 ch : ∀ c ∈ R.ch, c.d.length ≤ 65536
 fuse : -1 ≤ R.fuse ∧ R.fuse ≤ 9223372036854775807
def WorkR (R : Rk) (a : Option Addr) (c : Nat) (x : Option Addr) (y : Nat) (w : World) (en : Ending) (w' : World) : Prop :=
 en = .returned (.tuple #[rdkV (worksR R).2 a c x y, .int .i64 ((worksR R).1 : Nat)]) ∧ Below w.heap.size w w'
set_option maxHeartbeats 2000000 in
theorem rworks_any (R : Rk) (a : Option Addr) (c : Nat) (x : Option Addr) (y : Nat) (w : World) (hf : R.fuse ≤ 9223372036854775807) (hg : -1 ≤ R.fuse) :
  Calls Tryz.prog 173 #[rdkV R a c x y] w (WorkR R a c x y w) := by
 obtain ⟨room, sure, ch, fuse, down⟩ := R
 unfold WorkR worksR lower
 simp only at hf hg ⊢
 cases down with
 | true =>
  rw [if_pos (.inl rfl)]
  go_enter Tryz.func173, Tryz.ntmps173
  go_wp2
  refine bodyPost_ret (v := .tuple #[.agg #[.int .i64 room, .slice a sure.length c, .slice x ch.length y, .int .i64 fuse, .bool true], .int .i64 14]) (by simp [results, Tryz.results173, go_sem]) rfl ?_
  exact ⟨rfl, by go_grown⟩
 | false =>
  by_cases h0 : fuse = 0
  ·rw [if_pos (.inr h0)]
   subst h0
   go_enter Tryz.func173, Tryz.ntmps173
   go_wp2
   refine bodyPost_ret (v := .tuple #[.agg #[.int .i64 room, .slice a sure.length c, .slice x ch.length y, .int .i64 0, .bool true], .int .i64 14]) (by simp [results, Tryz.results173, go_sem]) rfl ?_
   exact ⟨rfl, by go_grown⟩
  ·rw [if_neg (by simpa using h0)]
   by_cases h1 : 0 < fuse
   ·rw [if_pos h1]
    go_enter Tryz.func173, Tryz.ntmps173
    go_wp2
    refine bodyPost_ret (v := .tuple #[.agg #[.int .i64 room, .slice a sure.length c, .slice x ch.length y, .int .i64 (fuse - 1), .bool false], .int .i64 0]) (by simp [results, Tryz.results173, go_sem]) rfl ?_
    exact ⟨rfl, by go_grown⟩
   ·rw [if_neg h1]
    go_enter Tryz.func173, Tryz.ntmps173
    go_wp2
    refine bodyPost_ret (v := .tuple #[.agg #[.int .i64 room, .slice a sure.length c, .slice x ch.length y, .int .i64 fuse, .bool false], .int .i64 0]) (by simp [results, Tryz.results173, go_sem]) rfl ?_
    exact ⟨rfl, by go_grown⟩
theorem find_get (l : Fl) (n : Nm) : (getF l n = none ∧ findI l n = -1) ∨ ∃ i, ∃ h : i < l.length, findI l n = (i : Nat) ∧ getF l n = some l[i].2 := by
 by_cases h : ∃ p ∈ l, p.1 = n
 ·right
  obtain ⟨i, hi⟩ : ∃ i, l.findIdx? (·.1 == n) = some i := by
   cases hq : l.findIdx? (·.1 == n) with
   | some i => exact ⟨i, rfl⟩
   | none =>
    rw [List.findIdx?_eq_none_iff] at hq
    obtain ⟨p, hp, he⟩ := h
    have := hq p hp
    simp [he] at this
  have h2 := hi
  rw [List.findIdx?_eq_some_iff_getElem] at h2
  obtain ⟨hlt, he, hlo⟩ := h2
  refine ⟨i, hlt, by unfold findI; rw [hi], ?_⟩
  unfold getF
  have : l.find? (·.1 == n) = some l[i] := by
   rw [List.find?_eq_some_iff_getElem]
   exact ⟨he, i, hlt, rfl, fun j hj => by have := hlo j hj; simpa using this⟩
  rw [this]; rfl
 ·left
  have h2 : ∀ p ∈ l, p.1 ≠ n := fun p hp he => h ⟨p, hp, he⟩
  refine ⟨?_, findI_no h2⟩
  unfold getF
  rw [List.find?_eq_none.2 (fun p hp => by simpa using h2 p hp)]; rfl
def FsR (K : Nat → Prop) (l : Fl) (w : World) (en : Ending) (w' : World) : Prop := ∃ a c, en = .returned (.slice a l.length c) ∧ FsK K w' a c l ∧ Below w.heap.size w w'
set_option maxHeartbeats 4000000 in
theorem rapply_any (K : Nat → Prop) (l : Fl) (a : Option Addr) (c : Nat) (ch : Chg) (w : World) (hK : ∀ b, K b → b < w.heap.size) (h : FsK K w a c l) (hl : l.length ≤ 4194303) :
  Calls Tryz.prog 238 #[.slice a l.length c, .agg #[.int .i64 (ch.kind : Nat), .string ch.name, .string ch.to, .string (strOf ch.d)]] w (FsR K (doR l ch) w) := by
 obtain ⟨kd, nm, tn, d⟩ := ch
 simp only
 have HK := Lib.hid' hK
 have H := Lib.hid' h
 have HG := Zh (find_get l nm)
 have HFI := Zh (fun wq (hq : Below w.heap.size w wq) => rfind_any l a c nm wq (h.1.below (Nat.le_refl _) hq))
 have HWO := Zh (fun wq (hq : Below w.heap.size w wq) => rwithout_any l a c nm wq (h.1.below (Nat.le_refl _) hq) (by omega))
 have HWI := Zh (fun wq (hq : Below w.heap.size w wq) => rwith_any l a c nm d wq (h.1.below (Nat.le_refl _) hq) (by omega))
 have HF := Zh (show doR l ⟨kd, nm, tn, d⟩ = if kd = 0 then insR less (nm, d) (delF l nm) else match getF l nm with
  | none => l
  | some b => if kd = 1 then insR less (tn, b) (delF (delF l nm) tn) else delF l nm from rfl)
 have HB0 := Zh (Below.refl w.heap.size w)
 clear h hK
 by_cases k0 : kd = 0
 ·subst k0
  rw [if_pos rfl] at HF
  go_enter Tryz.func238, Tryz.ntmps238
  go_wp2_with (first | (go_at_call 175; refine (HFI.out _ (by go_grown)).mono ?_; rintro e w2 ⟨rfl, rfl⟩) | (go_at_call 275; refine (HWI.out _ (by go_grown)).mono ?_; rintro e w3 ⟨a3, c3, rfl, ho, hb3⟩))
  go_ret
  rw [HF.out]
  exact ⟨a3, c3, rfl, RowK.ofOwn ho (fun b hb => by have := HK.out b hb; simp; omega), ((Below.refl w.heap.size w).alloc (Nat.le_refl _) _).trans (hb3.mono (by simp))⟩
 have k0' : ¬ ((kd : Int) = 0) := by omega
 rw [if_neg k0] at HF
 rcases HG.out with ⟨g1, g2⟩ | ⟨i, hi, g2, g1⟩
 ·rw [g1] at HF
  rw [g2] at HFI
  clear g1 g2
  go_enter Tryz.func238, Tryz.ntmps238
  go_wp2_with (first | (go_at_call 175; refine (HFI.out _ (by go_grown)).mono ?_; rintro e w2 ⟨rfl, rfl⟩))
  go_ret
  rw [HF.out]
  exact ⟨a, c, rfl, H.out.below (by go_grown), by go_grown⟩
 rw [g1] at HF
 rw [g2] at HFI
 simp only at HF
 clear g1 g2
 by_cases k1 : kd = 1
 ·subst k1
  rw [if_pos rfl] at HF
  obtain ⟨bb, off, rfl, hb, c0, c1⟩ := FsW.get (w := w) H.out.1 hi
  generalize l[i].2 = db at *
  go_enter Tryz.func238, Tryz.ntmps238
  have h1 := (Sep.start w).allocAt w.heap.size [.int .i64 1, .string nm, .string tn, .string (strOf d)] 277 rfl
  have hbw : bb < (w.alloc (.cells #[.int .i64 1, .string nm, .string tn, .string (strOf d)] 277)).heap.size := by simp; omega
  have S1 := Zh (And.intro h1.toBelow (And.intro (h1.cell 0 rfl 1 rfl) (And.intro (h1.cell 0 rfl 2 rfl) (And.intro (((bcell h1.toBelow).1 _ _ hb).trans c1) (And.intro (h1.lt 0 rfl) hbw)))))
  clear h1
  go_upto_region 7 with (first | (go_at_call 175; refine (HFI.out _ (by go_grown)).mono ?_; rintro e w2 ⟨rfl, rfl⟩))
  have S0 := S1.out
  generalize w.alloc (.cells #[.int .i64 1, .string nm, .string tn, .string (strOf d)] 277) = w1 at *
  have hi' : (i : Int) < (l.length : Int) := by omega
  refine startD (S := (fun w' => Below w.heap.size w w' ∧ w'.cell? ⟨w.heap.size, 1, none⟩ = some (.string nm) ∧ w'.cell? ⟨w.heap.size, 2, none⟩ = some (.string tn) ∧ w'.cell? ⟨bb, off + i * 2 + 1, none⟩ = some (.string (strOf db)) ∧ w.heap.size < w'.heap.size ∧ bb < w'.heap.size)) (by kernel_rfl) ⟨S0.1.drew, S0.2.1, S0.2.2.1, S0.2.2.2.1, S0.2.2.2.2.1, S0.2.2.2.2.2⟩ (fun hH0 => ?_)
  simp only [List.length_cons, List.length_nil, Nat.reduceAdd, List.replicate_succ, List.replicate_zero]
  refine tD 0 29 (.slice (some ⟨bb, off, none⟩) l.length c) rfl rfl [(0, .slice (some ⟨bb, off, none⟩) l.length c)] hH0 ?_
  dsimp only [sZ, sS]
  refine tD 1 30 (.pointer (some ⟨w.heap.size, 1, none⟩)) rfl rfl [(3, .pointer (some ⟨w.heap.size, 0, none⟩))] hH0 ?_
  dsimp only [sZ, sS]
  refine tD 2 31 (.string nm) rfl rfl [(30, .pointer (some ⟨w.heap.size, 1, none⟩))] hH0 ?_
  dsimp only [sZ, sS]
  refine tD 4 33 (.pointer (some ⟨w.heap.size, 2, none⟩)) rfl rfl [(3, .pointer (some ⟨w.heap.size, 0, none⟩))] hH0 ?_
  dsimp only [sZ, sS]
  refine tD 5 34 (.string tn) rfl rfl [(33, .pointer (some ⟨w.heap.size, 2, none⟩))] hH0 ?_
  dsimp only [sZ, sS]
  refine tD 6 35 (.slice (some ⟨bb, off, none⟩) l.length c) rfl rfl [(0, .slice (some ⟨bb, off, none⟩) l.length c)] hH0 ?_
  dsimp only [sZ, sS]
  refine tD 7 36 (.int .i64 (i : Nat)) rfl rfl [(5, .int .i64 (i : Nat))] hH0 ?_
  dsimp only [sZ, sS]
  refine tD 8 37 (.pointer (some ⟨bb, off + i * 2, none⟩)) rfl rfl [(35, .slice (some ⟨bb, off, none⟩) l.length c), (36, .int .i64 (i : Nat))] hH0 ?_
  dsimp only [sZ, sS]
  refine tD 9 38 (.pointer (some ⟨bb, off + i * 2 + 1, none⟩)) rfl rfl [(37, .pointer (some ⟨bb, off + i * 2, none⟩))] hH0 ?_
  dsimp only [sZ, sS]
  refine tD 10 39 (.string (strOf db)) rfl rfl [(38, .pointer (some ⟨bb, off + i * 2 + 1, none⟩))] hH0 ?_
  dsimp only [sZ, sS]
  refine tD 11 40 (.agg #[.string tn, .string (strOf db)]) rfl rfl [(34, .string tn), (39, .string (strOf db))] hH0 ?_
  dsimp only [sZ, sS]
  refine rD 3 rfl (fun K hK => ?_)
  go_simp
  refine (HWO.out _ hH0.1).mono ?_
  rintro en w3 ⟨a3, c3, rfl, ho3, hb3⟩
  refine hK.out _ _ ?_ (fun hH1 => ?_)
  ·obtain ⟨q0, q1, q2, q3, q4, q5⟩ := hH0; exact ⟨q0.trans (hb3.mono q0.size), ((bcell hb3).1 _ _ q4).trans q1, ((bcell hb3).1 _ _ q4).trans q2, ((bcell hb3).1 _ _ q5).trans q3, Nat.lt_of_lt_of_le q4 hb3.size, Nat.lt_of_lt_of_le q5 hb3.size⟩
  clear hK K
  try simp only [Act.put, gA, gZ, gS, sA, sZ, sS]
  refine rD 12 rfl (fun K hK => ?_)
  go_simp
  have hS4 := hH1
  refine (rwith_any (delF l nm) a3 c3 tn db _ (SlV.of_own ho3) (by have := delF_len l nm; omega)).mono ?_
  rintro en w4 ⟨a4, c4, rfl, ho4, hb4⟩
  refine hK.out _ _ ?_ (fun hH2 => ?_)
  ·obtain ⟨q0, q1, q2, q3, q4, q5⟩ := hH1; exact ⟨q0.trans (hb4.mono q0.size), ((bcell hb4).1 _ _ q4).trans q1, ((bcell hb4).1 _ _ q4).trans q2, ((bcell hb4).1 _ _ q5).trans q3, Nat.lt_of_lt_of_le q4 hb4.size, Nat.lt_of_lt_of_le q5 hb4.size⟩
  clear hK K
  try simp only [Act.put, gA, gZ, gS, sA, sZ, sS]
  refine tD 13 4 (.slice a4 (insR less (tn, db) (delF (delF l nm) tn)).length c4) rfl rfl [(41, .slice a4 (insR less (tn, db) (delF (delF l nm) tn)).length c4)] hH2 ?_
  dsimp only [sZ, sS]
  refine wpAnyH_done (by kernel_rfl) ?_ _
  go_wp2_with fail
  go_ret
  rw [HF.out]
  exact ⟨a4, c4, rfl, RowK.ofOwn ho4 (fun b hb => by have := HK.out b hb; have := hS4.2.2.2.2.1; omega), (hS4.1).trans (hb4.mono hS4.1.size)⟩
 ·have k1' : ¬ ((kd : Int) = 1) := by omega
  rw [if_neg k1] at HF
  go_enter Tryz.func238, Tryz.ntmps238
  go_wp2_with (first | (go_at_call 175; refine (HFI.out _ (by go_grown)).mono ?_; rintro e w2 ⟨rfl, rfl⟩) | (go_at_call 276; refine (HWO.out _ (by go_grown)).mono ?_; rintro e w3 ⟨a3, c3, rfl, ho, hb3⟩))
  go_ret
  rw [HF.out]
  exact ⟨a3, c3, rfl, RowK.ofOwn ho (fun b hb => by have := HK.out b hb; simp; omega), ((Below.refl w.heap.size w).alloc (Nat.le_refl _) _).trans (hb3.mono (by simp))⟩
end DK
end Go.Proofs.YtpckcpmohcianaaGreatDoor
