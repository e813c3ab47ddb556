/- Proved here: a part of the proof (36 of 37). -/
import Derived.Test.YtimbeeiihbmofaaGreatDoorW11
import Derived.Lib.SmallJoins
set_option linter.unusedSimpArgs false
set_option linter.unusedVariables false
set_option maxRecDepth 20000
namespace Go.Proofs.YtimbeeiihbmofaaGreatDoor
open Go.RowKit
theorem bytes_const33 (w:World) (b:UInt8) (n:Nat) (hn:n=1):Bytes (w.alloc (.cells #[byteV b] 5 (1,2))) (.slice (some ⟨w.heap.size,0,none⟩) n n) [b]:=by
 subst hn
 refine ⟨_,_,rfl,Nat.le_refl _,by unfold maxLen;decide,by simp,fun j u hu=>⟨_,rfl,?_⟩⟩
 have e1:(Addr.add ⟨w.heap.size,0,none⟩ j)=⟨w.heap.size,j,none⟩:=by unfold Addr.add;split<;>simp_all
 rw [e1]
 have e2:(w.alloc (.cells #[byteV b] 5 (1,2))).heap[w.heap.size]?=some (.cells #[byteV b] 5 (1,2)):=by show (w.heap.push _)[w.heap.size]?=_;simp
 simp only [World.cell?,e2,Option.isSome_none,Bool.false_eq_true,if_false]
 simpa [byteVs] using hu

theorem alive33_a:M.new.app [97]=(0,0,⟨⟨0,0,[(0,⟨1,[97]⟩)]⟩,1⟩):=by rfl
theorem alive33_b:(⟨⟨0,0,[(0,⟨1,[97]⟩)]⟩,1⟩:M).fil 3=(0,⟨⟨0,0,[(0,⟨1,[97]⟩),(3,⟨2,[]⟩)]⟩,4⟩):=by rfl
set_option maxHeartbeats 1000000 in
theorem alive33_any (w:World):Calls Tryz.prog 4 #[] w fun e w'=>e=.returned (.bool true)∧Below w.heap.size w w':=by
 have kc:=fun (w:World) (C:Array Value) (n c:Nat)=>Lib.run_convert_bytes_const (P:=Tryz.prog) w 38 5 C n c Tryz.underlying38 Tryz.underlying5
 go_enter Tryz.func4, Tryz.ntmps4
 go_wp2_with fail
 refine (mnew_any _).mono ?_
 rintro e w1 ⟨rfl,hb1,hs1,hu1⟩
 have HU:=Zh (hu1 (fun k=>k=w.heap.size∨k=w.heap.size+1) (.inl rfl) (.inr rfl))
 have HB1:=Lib.hid' hb1
 have HS1:=Lib.hid' hs1
 clear hu1 hb1 hs1
 go_wp2_with fail
 have HB2:=Zh (show Below w1.heap.size w1 (w1.alloc (.cells #[.int .u8 97] 5 (1,2))) by go_grown)
 have hd:=Zh (bytes_const33 w1 97 1 rfl)
 have e0:(byteV 97)=.int .u8 97:=rfl
 rw [e0] at hd
 clear e0
 generalize (w1.alloc (.cells #[.int .u8 97] 5 (1,2)))=w2 at *
 refine (mapp_any _ _ [97] _ (HU.out.below (Nat.le_refl _) HB2.out) (fun k hk=>by have:=HB2.out.size;have:=HS1.out;omega) hd.out).mono ?_
 rintro e w3 ⟨rfl,hu3,hf3⟩
 rw [alive33_a] at hu3
 have HU3:=Lib.hid' hu3
 have HB3:=Zh (show Below w.heap.size w w3 from (HB1.out.trans (HB2.out.mono HB1.out.size)).trans (hf3.below (Nat.le_trans HB1.out.size HB2.out.size) (fun k hk=>by rcases hk with rfl | rfl<;>omega)))
 have HZ3:=Zh (show w.heap.size+2≤w3.heap.size by have:=hf3.size;have:=HB2.out.size;have:=HS1.out;omega)
 clear hu3 hf3 hd
 rw [alive33_a,errV_0]
 go_wp2_with fail
 refine (mfill_any 3 _ HU3.out (fun k hk=>by have:=HZ3.out;omega)).mono ?_
 rintro e w5 ⟨rfl,hu5,hf5⟩
 rw [alive33_b] at hu5
 have HU5:=Lib.hid' hu5
 have HB5:=Zh (show Below w.heap.size w w5 from HB3.out.trans (hf5.below HB3.out.size (fun k hk=>by rcases hk with rfl | rfl<;>omega)))
 clear hu5 hf5
 rw [alive33_b,errV_0]
 go_wp2_with fail
 refine (mtail_any _ HU5.out).mono ?_
 rintro e w6 ⟨rfl,rfl⟩
 go_wp2
 go_ret
 exact ⟨rfl,HB5.out⟩
end Go.Proofs.YtimbeeiihbmofaaGreatDoor
