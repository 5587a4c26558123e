/- Parts of the proof, one behind the other: CodeL, CodeF, CodeE, K68, K69, K70, RefP, RefN, SoundH. -/
import Derived.Test.YtgfkgppomaapiaaGreatDoorQWalDoes3
import Derived.Lib.OthersKept
import Derived.Lib.BufferKept
set_option linter.unusedVariables false
set_option linter.unusedSimpArgs false
namespace Go.Proofs.YtgfkgppomaapiaaGreatDoor.K
open RowKit YtgfkgppomaapiaaGreatDoorW.PrintWords YtgfkgppomaapiaaGreatDoorW.PrintLast YtgfkgppomaapiaaGreatDoorW.PrintMore My
section
def Bf (B b:Nat) (l:List UInt8) (w:World):Prop:=Lib.IsBuffer 65 5 B b (Lib.byteCells l) w
def Kp (B b:Nat) (w w':World):Prop:=Below B w w'∧Lib.OthersKept 5 (some b) w w'
theorem Kp.refl (B b:Nat) (w:World):Kp B b w w:=⟨Below.refl _ _,Lib.OthersKept.refl _ _ _⟩
theorem Kp.trans {B b:Nat} {w w1 w2:World} (h:Kp B b w w1) (k:Kp B b w1 w2):Kp B b w w2:=⟨h.1.trans k.1,h.2.trans k.2⟩
theorem Kp.alloc {B b:Nat} {w w1:World} (h:Kp B b w w1) (hB:B≤w1.heap.size) (o:Obj):Kp B b w (w1.alloc o):=⟨h.1.alloc hB o,h.2.alloc o⟩
theorem Kp.size {B b:Nat} {w w1:World} (h:Kp B b w w1):w.heap.size≤w1.heap.size:=h.1.size
theorem Kp.block {B b:Nat} {w w1:World} (h:Kp B b w w1) {k:Nat} {cs:Array Value} {t:TypeId} {fz:Nat × Nat} (hk:w.heap[k]? = some (.cells cs t fz)) (hne:k≠b) (ht:t≠5):w1.heap[k]? = some (.cells cs t fz) :=
 h.2 k _ hk (fun e=>hne (by injection e)) (fun c f e=>ht (by injection e))
theorem Bf.lt {B b:Nat} {l:List UInt8} {w:World} (h:Bf B b l w):b<w.heap.size:=Lib.IsBuffer.lt h
theorem Bf.alloc {B b:Nat} {l:List UInt8} {w:World} (h:Bf B b l w) (o:Obj):Bf B b l (w.alloc o):=Lib.IsBuffer.alloc h o
theorem Bf.fresh (w:World):Bf w.heap.size w.heap.size [] (w.alloc (.cells #[.slice none 0 0,.int .i64 0,.int .i8 0] 65)):=Lib.fresh_isBuffer _ _ _
theorem VB (l:List UInt8) (c:UInt8):Lib.byteCells (l ++ [c])=Lib.byteCells l ++ [.int .u8 (c.toNat:Int)]:=by simp [Lib.byteCells]
theorem ja_ (x:Int) (s k:Nat) (hk:k<s):(layB x s).take (k+1)=(layB x s).take k ++ [UInt8.ofNat ((x / 256 ^ (s - 1 - k)) % 256).toNat]:=by
 induction s generalizing k with
 | zero=>omega
 | succ s ih =>
  cases k with
  | zero=>simp [layB]
  | succ k =>
   have:=ih k (by omega)
   simp only [layB,List.take_succ_cons,List.cons_append]
   rw [this,show s+1 - 1 - (k+1)=s - 1 - k by omega]
theorem byte_of (v:Int):((UInt8.ofNat (v % 256).toNat).toNat:Int)=v % 256:=by
 rw [UInt8.toNat_ofNat']
 omega
theorem Bf.step {B b:Nat} {l:List UInt8} {x V:Int} {s k:Nat} {w:World} (h:Lib.IsBuffer 65 5 B b (Lib.byteCells (l ++ (layB x s).take k) ++ [.int .u8 V]) w) (hk:k<s) (hV:V=x / 256 ^ (s - 1 - k) % 256):Bf B b (l ++ (layB x s).take (k+1)) w:=by
 unfold Bf
 rw [ja_ x s k hk,← List.append_assoc,VB,byte_of,← hV]
 exact h
theorem cells_one (l:List UInt8):∀ v∈Lib.byteCells l,v.oneCell'=true:=Lib.byteCells_one l
theorem kS (l:List UInt8) (x:Int) (s k:Nat) (h:l.length+s≤140737488355328) (hk:k<s):(Lib.byteCells (l ++ (layB x s).take k)).length+1≤140737488355328:=by
 rw [Lib.byteCells_length,List.length_append,List.length_take,iM]
 omega
set_option maxHeartbeats 4000000 in
theorem qG (B b:Nat) (l:List UInt8) (x:Int) (w:World) (h:Bf B b l w) (hB:B≤w.heap.size) (hl:l.length+1≤140737488355328) :
  Calls Tryz.prog 61 #[.pointer (some ⟨b,0,none⟩),.int .u8 x,.int .i64 1] w fun e w'=>e=.returned (.tuple #[])∧Bf B b (l ++ layB x 1) w'∧Kp B b w w':=by
 have H0:=iC.mk h
 clear h
 go_enter Tryz.func61,Tryz.ntmps61
 go_wp2
 go_loopw [8] (fun i wr=>∃ k:Nat,k≤1∧i=.int .i64 k∧iC (Bf B b (l ++ (layB x 1).take k) wr)∧iC (Kp B b w wr)) (fun i _=>1 - (intOf i).toNat)
 case atStart=>exact ⟨0,Nat.zero_le _,rfl,⟨by rw [List.take_zero,List.append_nil];exact H0.out⟩,⟨Kp.refl _ _ _⟩⟩
 case round =>
  obtain ⟨k,hk,rfl,HI,HK⟩:=hrel
  have h':k=0∨k=1:=by omega
  rcases h' with rfl | rfl
  ·have hI:=HI.out
   have hK:=HK.out
   clear HI HK
   go_wp2_with (go_at_call 96;refine (Tryz.Buffer_WriteByte_kept B b _ _ wr hI (Nat.le_trans hB hK.size) (cells_one _) (kS l x 1 0 hl (by omega))).mono ?_;rintro e w1 ⟨rfl,hI1,hb1,hk1⟩;have HI1:=iC.mk hI1;have HK1:=iC.mk (hK.trans ⟨hb1,hk1⟩);clear hI1 hb1 hk1 hI hK)
   go_roundw
   case rel=>exact ⟨1,by omega,by go_num,⟨Bf.step (k:=0) HI1.out (by omega) (by first | rfl | (show _=x / 1 % 256;rw [IntKind.wrap_u64];omega) | (show _=x / 1 % 256;omega))⟩,HK1⟩
   case measure=>simp [intOf]
  ·go_wp2
   go_end0
   refine ⟨rfl,?_,HK.out⟩
   have:=HI.out
   rwa [List.take_of_length_le (by rw [iM];exact Nat.le_refl _)] at this
set_option maxHeartbeats 4000000 in
theorem mG (B b:Nat) (l:List UInt8) (x:Int) (w:World) (h:Bf B b l w) (hB:B≤w.heap.size) (hl:l.length+4≤140737488355328) :
  Calls Tryz.prog 62 #[.pointer (some ⟨b,0,none⟩),.int .u32 x,.int .i64 4] w fun e w'=>e=.returned (.tuple #[])∧Bf B b (l ++ layB x 4) w'∧Kp B b w w':=by
 have H0:=iC.mk h
 clear h
 go_enter Tryz.func62,Tryz.ntmps62
 go_wp2
 go_loopw [8] (fun i wr=>∃ k:Nat,k≤4∧i=.int .i64 k∧iC (Bf B b (l ++ (layB x 4).take k) wr)∧iC (Kp B b w wr)) (fun i _=>4 - (intOf i).toNat)
 case atStart=>exact ⟨0,Nat.zero_le _,rfl,⟨by rw [List.take_zero,List.append_nil];exact H0.out⟩,⟨Kp.refl _ _ _⟩⟩
 case round =>
  obtain ⟨k,hk,rfl,HI,HK⟩:=hrel
  have h':k=0∨k=1∨k=2∨k=3∨k=4:=by omega
  rcases h' with rfl | rfl | rfl | rfl | rfl
  ·have hI:=HI.out
   have hK:=HK.out
   clear HI HK
   go_wp2_with (go_at_call 96;refine (Tryz.Buffer_WriteByte_kept B b _ _ wr hI (Nat.le_trans hB hK.size) (cells_one _) (kS l x 4 0 hl (by omega))).mono ?_;rintro e w1 ⟨rfl,hI1,hb1,hk1⟩;have HI1:=iC.mk hI1;have HK1:=iC.mk (hK.trans ⟨hb1,hk1⟩);clear hI1 hb1 hk1 hI hK)
   go_roundw
   case rel=>exact ⟨1,by omega,by go_num,⟨Bf.step (k:=0) HI1.out (by omega) (by first | rfl | (show _=x / 16777216 % 256;rw [IntKind.wrap_u64];omega) | (show _=x / 16777216 % 256;omega))⟩,HK1⟩
   case measure=>simp [intOf]
  ·have hI:=HI.out
   have hK:=HK.out
   clear HI HK
   go_wp2_with (go_at_call 96;refine (Tryz.Buffer_WriteByte_kept B b _ _ wr hI (Nat.le_trans hB hK.size) (cells_one _) (kS l x 4 1 hl (by omega))).mono ?_;rintro e w1 ⟨rfl,hI1,hb1,hk1⟩;have HI1:=iC.mk hI1;have HK1:=iC.mk (hK.trans ⟨hb1,hk1⟩);clear hI1 hb1 hk1 hI hK)
   go_roundw
   case rel=>exact ⟨2,by omega,by go_num,⟨Bf.step (k:=1) HI1.out (by omega) (by first | rfl | (show _=x / 65536 % 256;rw [IntKind.wrap_u64];omega) | (show _=x / 65536 % 256;omega))⟩,HK1⟩
   case measure=>simp [intOf]
  ·have hI:=HI.out
   have hK:=HK.out
   clear HI HK
   go_wp2_with (go_at_call 96;refine (Tryz.Buffer_WriteByte_kept B b _ _ wr hI (Nat.le_trans hB hK.size) (cells_one _) (kS l x 4 2 hl (by omega))).mono ?_;rintro e w1 ⟨rfl,hI1,hb1,hk1⟩;have HI1:=iC.mk hI1;have HK1:=iC.mk (hK.trans ⟨hb1,hk1⟩);clear hI1 hb1 hk1 hI hK)
   go_roundw
   case rel=>exact ⟨3,by omega,by go_num,⟨Bf.step (k:=2) HI1.out (by omega) (by first | rfl | (show _=x / 256 % 256;rw [IntKind.wrap_u64];omega) | (show _=x / 256 % 256;omega))⟩,HK1⟩
   case measure=>simp [intOf]
  ·have hI:=HI.out
   have hK:=HK.out
   clear HI HK
   go_wp2_with (go_at_call 96;refine (Tryz.Buffer_WriteByte_kept B b _ _ wr hI (Nat.le_trans hB hK.size) (cells_one _) (kS l x 4 3 hl (by omega))).mono ?_;rintro e w1 ⟨rfl,hI1,hb1,hk1⟩;have HI1:=iC.mk hI1;have HK1:=iC.mk (hK.trans ⟨hb1,hk1⟩);clear hI1 hb1 hk1 hI hK)
   go_roundw
   case rel=>exact ⟨4,by omega,by go_num,⟨Bf.step (k:=3) HI1.out (by omega) (by first | rfl | (show _=x / 1 % 256;rw [IntKind.wrap_u64];omega) | (show _=x / 1 % 256;omega))⟩,HK1⟩
   case measure=>simp [intOf]
  ·go_wp2
   go_end0
   refine ⟨rfl,?_,HK.out⟩
   have:=HI.out
   rwa [List.take_of_length_le (by rw [iM];exact Nat.le_refl _)] at this
set_option maxHeartbeats 4000000 in
theorem rM (B b:Nat) (l:List UInt8) (x:Int) (w:World) (h:Bf B b l w) (hB:B≤w.heap.size) (hl:l.length+1≤140737488355328) :
  Calls Tryz.prog 65 #[.pointer (some ⟨b,0,none⟩),.int .i64 x,.int .i64 1] w fun e w'=>e=.returned (.tuple #[])∧Bf B b (l ++ layB x 1) w'∧Kp B b w w':=by
 have H0:=iC.mk h
 clear h
 go_enter Tryz.func65,Tryz.ntmps65
 go_wp2
 go_loopw [8] (fun i wr=>∃ k:Nat,k≤1∧i=.int .i64 k∧iC (Bf B b (l ++ (layB x 1).take k) wr)∧iC (Kp B b w wr)) (fun i _=>1 - (intOf i).toNat)
 case atStart=>exact ⟨0,Nat.zero_le _,rfl,⟨by rw [List.take_zero,List.append_nil];exact H0.out⟩,⟨Kp.refl _ _ _⟩⟩
 case round =>
  obtain ⟨k,hk,rfl,HI,HK⟩:=hrel
  have h':k=0∨k=1:=by omega
  rcases h' with rfl | rfl
  ·have hI:=HI.out
   have hK:=HK.out
   clear HI HK
   go_wp2_with (go_at_call 96;refine (Tryz.Buffer_WriteByte_kept B b _ _ wr hI (Nat.le_trans hB hK.size) (cells_one _) (kS l x 1 0 hl (by omega))).mono ?_;rintro e w1 ⟨rfl,hI1,hb1,hk1⟩;have HI1:=iC.mk hI1;have HK1:=iC.mk (hK.trans ⟨hb1,hk1⟩);clear hI1 hb1 hk1 hI hK)
   go_roundw
   case rel=>exact ⟨1,by omega,by go_num,⟨Bf.step (k:=0) HI1.out (by omega) (by first | rfl | (show _=x / 1 % 256;rw [IntKind.wrap_u64];omega) | (show _=x / 1 % 256;omega))⟩,HK1⟩
   case measure=>simp [intOf]
  ·go_wp2
   go_end0
   refine ⟨rfl,?_,HK.out⟩
   have:=HI.out
   rwa [List.take_of_length_le (by rw [iM];exact Nat.le_refl _)] at this
set_option maxHeartbeats 4000000 in
theorem pO (B b:Nat) (l:List UInt8) (x:Int) (w:World) (h:Bf B b l w) (hB:B≤w.heap.size) (hl:l.length+4≤140737488355328) :
  Calls Tryz.prog 65 #[.pointer (some ⟨b,0,none⟩),.int .i64 x,.int .i64 4] w fun e w'=>e=.returned (.tuple #[])∧Bf B b (l ++ layB x 4) w'∧Kp B b w w':=by
 have H0:=iC.mk h
 clear h
 go_enter Tryz.func65,Tryz.ntmps65
 go_wp2
 go_loopw [8] (fun i wr=>∃ k:Nat,k≤4∧i=.int .i64 k∧iC (Bf B b (l ++ (layB x 4).take k) wr)∧iC (Kp B b w wr)) (fun i _=>4 - (intOf i).toNat)
 case atStart=>exact ⟨0,Nat.zero_le _,rfl,⟨by rw [List.take_zero,List.append_nil];exact H0.out⟩,⟨Kp.refl _ _ _⟩⟩
 case round =>
  obtain ⟨k,hk,rfl,HI,HK⟩:=hrel
  have h':k=0∨k=1∨k=2∨k=3∨k=4:=by omega
  rcases h' with rfl | rfl | rfl | rfl | rfl
  ·have hI:=HI.out
   have hK:=HK.out
   clear HI HK
   go_wp2_with (go_at_call 96;refine (Tryz.Buffer_WriteByte_kept B b _ _ wr hI (Nat.le_trans hB hK.size) (cells_one _) (kS l x 4 0 hl (by omega))).mono ?_;rintro e w1 ⟨rfl,hI1,hb1,hk1⟩;have HI1:=iC.mk hI1;have HK1:=iC.mk (hK.trans ⟨hb1,hk1⟩);clear hI1 hb1 hk1 hI hK)
   go_roundw
   case rel=>exact ⟨1,by omega,by go_num,⟨Bf.step (k:=0) HI1.out (by omega) (by first | rfl | (show _=x / 16777216 % 256;rw [IntKind.wrap_u64];omega) | (show _=x / 16777216 % 256;omega))⟩,HK1⟩
   case measure=>simp [intOf]
  ·have hI:=HI.out
   have hK:=HK.out
   clear HI HK
   go_wp2_with (go_at_call 96;refine (Tryz.Buffer_WriteByte_kept B b _ _ wr hI (Nat.le_trans hB hK.size) (cells_one _) (kS l x 4 1 hl (by omega))).mono ?_;rintro e w1 ⟨rfl,hI1,hb1,hk1⟩;have HI1:=iC.mk hI1;have HK1:=iC.mk (hK.trans ⟨hb1,hk1⟩);clear hI1 hb1 hk1 hI hK)
   go_roundw
   case rel=>exact ⟨2,by omega,by go_num,⟨Bf.step (k:=1) HI1.out (by omega) (by first | rfl | (show _=x / 65536 % 256;rw [IntKind.wrap_u64];omega) | (show _=x / 65536 % 256;omega))⟩,HK1⟩
   case measure=>simp [intOf]
  ·have hI:=HI.out
   have hK:=HK.out
   clear HI HK
   go_wp2_with (go_at_call 96;refine (Tryz.Buffer_WriteByte_kept B b _ _ wr hI (Nat.le_trans hB hK.size) (cells_one _) (kS l x 4 2 hl (by omega))).mono ?_;rintro e w1 ⟨rfl,hI1,hb1,hk1⟩;have HI1:=iC.mk hI1;have HK1:=iC.mk (hK.trans ⟨hb1,hk1⟩);clear hI1 hb1 hk1 hI hK)
   go_roundw
   case rel=>exact ⟨3,by omega,by go_num,⟨Bf.step (k:=2) HI1.out (by omega) (by first | rfl | (show _=x / 256 % 256;rw [IntKind.wrap_u64];omega) | (show _=x / 256 % 256;omega))⟩,HK1⟩
   case measure=>simp [intOf]
  ·have hI:=HI.out
   have hK:=HK.out
   clear HI HK
   go_wp2_with (go_at_call 96;refine (Tryz.Buffer_WriteByte_kept B b _ _ wr hI (Nat.le_trans hB hK.size) (cells_one _) (kS l x 4 3 hl (by omega))).mono ?_;rintro e w1 ⟨rfl,hI1,hb1,hk1⟩;have HI1:=iC.mk hI1;have HK1:=iC.mk (hK.trans ⟨hb1,hk1⟩);clear hI1 hb1 hk1 hI hK)
   go_roundw
   case rel=>exact ⟨4,by omega,by go_num,⟨Bf.step (k:=3) HI1.out (by omega) (by first | rfl | (show _=x / 1 % 256;rw [IntKind.wrap_u64];omega) | (show _=x / 1 % 256;omega))⟩,HK1⟩
   case measure=>simp [intOf]
  ·go_wp2
   go_end0
   refine ⟨rfl,?_,HK.out⟩
   have:=HI.out
   rwa [List.take_of_length_le (by rw [iM];exact Nat.le_refl _)] at this
set_option maxHeartbeats 4000000 in
theorem jg9 (B b:Nat) (l:List UInt8) (x:Int) (w:World) (h:Bf B b l w) (hB:B≤w.heap.size) (hl:l.length+8≤140737488355328) :
  Calls Tryz.prog 97 #[.pointer (some ⟨b,0,none⟩),.int .i64 x,.int .i64 8] w fun e w'=>e=.returned (.tuple #[])∧Bf B b (l ++ layB x 8) w'∧Kp B b w w':=by
 have H0:=iC.mk h
 clear h
 go_enter Tryz.func97,Tryz.ntmps97
 go_wp2
 go_loopw [8] (fun i wr=>∃ k:Nat,k≤8∧i=.int .i64 k∧iC (Bf B b (l ++ (layB x 8).take k) wr)∧iC (Kp B b w wr)) (fun i _=>8 - (intOf i).toNat)
 case atStart=>exact ⟨0,Nat.zero_le _,rfl,⟨by rw [List.take_zero,List.append_nil];exact H0.out⟩,⟨Kp.refl _ _ _⟩⟩
 case round =>
  obtain ⟨k,hk,rfl,HI,HK⟩:=hrel
  have h':k=0∨k=1∨k=2∨k=3∨k=4∨k=5∨k=6∨k=7∨k=8:=by omega
  rcases h' with rfl | rfl | rfl | rfl | rfl | rfl | rfl | rfl | rfl
  ·have hI:=HI.out
   have hK:=HK.out
   clear HI HK
   go_wp2_with (go_at_call 96;refine (Tryz.Buffer_WriteByte_kept B b _ _ wr hI (Nat.le_trans hB hK.size) (cells_one _) (kS l x 8 0 hl (by omega))).mono ?_;rintro e w1 ⟨rfl,hI1,hb1,hk1⟩;have HI1:=iC.mk hI1;have HK1:=iC.mk (hK.trans ⟨hb1,hk1⟩);clear hI1 hb1 hk1 hI hK)
   go_roundw
   case rel=>exact ⟨1,by omega,by go_num,⟨Bf.step (k:=0) HI1.out (by omega) (by first | rfl | (show _=x / 72057594037927936 % 256;rw [IntKind.wrap_u64];omega) | (show _=x / 72057594037927936 % 256;omega))⟩,HK1⟩
   case measure=>simp [intOf]
  ·have hI:=HI.out
   have hK:=HK.out
   clear HI HK
   go_wp2_with (go_at_call 96;refine (Tryz.Buffer_WriteByte_kept B b _ _ wr hI (Nat.le_trans hB hK.size) (cells_one _) (kS l x 8 1 hl (by omega))).mono ?_;rintro e w1 ⟨rfl,hI1,hb1,hk1⟩;have HI1:=iC.mk hI1;have HK1:=iC.mk (hK.trans ⟨hb1,hk1⟩);clear hI1 hb1 hk1 hI hK)
   go_roundw
   case rel=>exact ⟨2,by omega,by go_num,⟨Bf.step (k:=1) HI1.out (by omega) (by first | rfl | (show _=x / 281474976710656 % 256;rw [IntKind.wrap_u64];omega) | (show _=x / 281474976710656 % 256;omega))⟩,HK1⟩
   case measure=>simp [intOf]
  ·have hI:=HI.out
   have hK:=HK.out
   clear HI HK
   go_wp2_with (go_at_call 96;refine (Tryz.Buffer_WriteByte_kept B b _ _ wr hI (Nat.le_trans hB hK.size) (cells_one _) (kS l x 8 2 hl (by omega))).mono ?_;rintro e w1 ⟨rfl,hI1,hb1,hk1⟩;have HI1:=iC.mk hI1;have HK1:=iC.mk (hK.trans ⟨hb1,hk1⟩);clear hI1 hb1 hk1 hI hK)
   go_roundw
   case rel=>exact ⟨3,by omega,by go_num,⟨Bf.step (k:=2) HI1.out (by omega) (by first | rfl | (show _=x / 1099511627776 % 256;rw [IntKind.wrap_u64];omega) | (show _=x / 1099511627776 % 256;omega))⟩,HK1⟩
   case measure=>simp [intOf]
  ·have hI:=HI.out
   have hK:=HK.out
   clear HI HK
   go_wp2_with (go_at_call 96;refine (Tryz.Buffer_WriteByte_kept B b _ _ wr hI (Nat.le_trans hB hK.size) (cells_one _) (kS l x 8 3 hl (by omega))).mono ?_;rintro e w1 ⟨rfl,hI1,hb1,hk1⟩;have HI1:=iC.mk hI1;have HK1:=iC.mk (hK.trans ⟨hb1,hk1⟩);clear hI1 hb1 hk1 hI hK)
   go_roundw
   case rel=>exact ⟨4,by omega,by go_num,⟨Bf.step (k:=3) HI1.out (by omega) (by first | rfl | (show _=x / 4294967296 % 256;rw [IntKind.wrap_u64];omega) | (show _=x / 4294967296 % 256;omega))⟩,HK1⟩
   case measure=>simp [intOf]
  ·have hI:=HI.out
   have hK:=HK.out
   clear HI HK
   go_wp2_with (go_at_call 96;refine (Tryz.Buffer_WriteByte_kept B b _ _ wr hI (Nat.le_trans hB hK.size) (cells_one _) (kS l x 8 4 hl (by omega))).mono ?_;rintro e w1 ⟨rfl,hI1,hb1,hk1⟩;have HI1:=iC.mk hI1;have HK1:=iC.mk (hK.trans ⟨hb1,hk1⟩);clear hI1 hb1 hk1 hI hK)
   go_roundw
   case rel=>exact ⟨5,by omega,by go_num,⟨Bf.step (k:=4) HI1.out (by omega) (by first | rfl | (show _=x / 16777216 % 256;rw [IntKind.wrap_u64];omega) | (show _=x / 16777216 % 256;omega))⟩,HK1⟩
   case measure=>simp [intOf]
  ·have hI:=HI.out
   have hK:=HK.out
   clear HI HK
   go_wp2_with (go_at_call 96;refine (Tryz.Buffer_WriteByte_kept B b _ _ wr hI (Nat.le_trans hB hK.size) (cells_one _) (kS l x 8 5 hl (by omega))).mono ?_;rintro e w1 ⟨rfl,hI1,hb1,hk1⟩;have HI1:=iC.mk hI1;have HK1:=iC.mk (hK.trans ⟨hb1,hk1⟩);clear hI1 hb1 hk1 hI hK)
   go_roundw
   case rel=>exact ⟨6,by omega,by go_num,⟨Bf.step (k:=5) HI1.out (by omega) (by first | rfl | (show _=x / 65536 % 256;rw [IntKind.wrap_u64];omega) | (show _=x / 65536 % 256;omega))⟩,HK1⟩
   case measure=>simp [intOf]
  ·have hI:=HI.out
   have hK:=HK.out
   clear HI HK
   go_wp2_with (go_at_call 96;refine (Tryz.Buffer_WriteByte_kept B b _ _ wr hI (Nat.le_trans hB hK.size) (cells_one _) (kS l x 8 6 hl (by omega))).mono ?_;rintro e w1 ⟨rfl,hI1,hb1,hk1⟩;have HI1:=iC.mk hI1;have HK1:=iC.mk (hK.trans ⟨hb1,hk1⟩);clear hI1 hb1 hk1 hI hK)
   go_roundw
   case rel=>exact ⟨7,by omega,by go_num,⟨Bf.step (k:=6) HI1.out (by omega) (by first | rfl | (show _=x / 256 % 256;rw [IntKind.wrap_u64];omega) | (show _=x / 256 % 256;omega))⟩,HK1⟩
   case measure=>simp [intOf]
  ·have hI:=HI.out
   have hK:=HK.out
   clear HI HK
   go_wp2_with (go_at_call 96;refine (Tryz.Buffer_WriteByte_kept B b _ _ wr hI (Nat.le_trans hB hK.size) (cells_one _) (kS l x 8 7 hl (by omega))).mono ?_;rintro e w1 ⟨rfl,hI1,hb1,hk1⟩;have HI1:=iC.mk hI1;have HK1:=iC.mk (hK.trans ⟨hb1,hk1⟩);clear hI1 hb1 hk1 hI hK)
   go_roundw
   case rel=>exact ⟨8,by omega,by go_num,⟨Bf.step (k:=7) HI1.out (by omega) (by first | rfl | (show _=x / 1 % 256;rw [IntKind.wrap_u64];omega) | (show _=x / 1 % 256;omega))⟩,HK1⟩
   case measure=>simp [intOf]
  ·go_wp2
   go_end0
   refine ⟨rfl,?_,HK.out⟩
   have:=HI.out
   rwa [List.take_of_length_le (by rw [iM];exact Nat.le_refl _)] at this
end
section
theorem kV {α:Type} (e:α→List UInt8) (z:α) (l:List α) (k:Nat) (h:k<l.length):(l.take (k+1)).flatMap e=(l.take k).flatMap e ++ e (l.getD k z):=by
 rw [kW z l k h,List.flatMap_append]
 simp
theorem qC {α:Type} (e:α→List UInt8) (l:List α) (k:Nat):((l.take k).flatMap e).length≤(l.flatMap e).length:=by
 conv=>rhs;rw [← List.take_append_drop k l,List.flatMap_append,List.length_append]
 omega
theorem MM (n:Nat) (l:List Int):(l.flatMap (layB · n)).length=n * l.length:=by
 induction l with
 | nil=>rfl
 | cons x l ih=>rw [List.flatMap_cons,List.length_append,ih,iM,List.length_cons,Nat.mul_add];omega
theorem je6 (l:List Int) (k:Nat):rd l (k:Int)=l.getD k 0:=by unfold rd;rw [Int.toNat_natCast]
set_option maxHeartbeats 2000000 in
theorem xX (b:Nat) (l:List UInt8) (A:Option Addr) (c:Nat) (ns:List Int) (w0 w:World) (h:Bf w0.heap.size b l w) (hb:Below w0.heap.size w0 w) (hr:Kd.C (Kd.int .i64) w0 A ns.length ns) (hl:l.length+1+ns.length≤140737488355328) :
  Calls Tryz.prog 63 #[.pointer (some ⟨b,0,none⟩),.slice A ns.length c] w fun e w'=>e=.returned (.tuple #[])∧Bf w0.heap.size b (l ++ nJ ns) w'∧Kp w0.heap.size b w w':=by
 have HR:=iC.mk hr
 have H0:=iC.mk h
 have HB0:=iC.mk hb
 have hm:=lD hr
 clear hr h hb
 go_enter Tryz.func63,Tryz.ntmps63
 go_wp2_with (go_at_call 65;refine (rM _ _ l _ _ H0.out HB0.out.size (by omega)).mono ?_;rintro e w1 ⟨rfl,hI,hK⟩;have HI1:=iC.mk hI;have HK1:=iC.mk hK;clear hI hK)
 go_loopw [12] (fun i wr=>∃ k:Nat,k≤ns.length∧i=.int .i64 k∧iC (Bf w0.heap.size b (l ++ layB ns.length 1 ++ (ns.take k).flatMap (layB · 1)) wr)∧iC (Kp w0.heap.size b w wr)) (fun i _=>ns.length - (intOf i).toNat)
 case atStart=>exact ⟨0,Nat.zero_le _,rfl,⟨by rw [List.take_zero,List.flatMap_nil,List.append_nil];exact HI1.out⟩,HK1⟩
 case round =>
  obtain ⟨k,hk,rfl,HI,HK⟩:=hrel
  clear HI1 HK1
  by_cases hlt:k<ns.length
  ·obtain ⟨ad,rfl,hx⟩:=Kd.at_int (Kd.C_below HR.out (HB0.out.trans HK.out.1)) (k:Int) (by omega) (by omega)
   rw [je6,Int.toNat_natCast] at hx
   have hts:=iC.mk (kV (layB · 1) 0 ns k hlt)
   have hlen:(l ++ layB ns.length 1 ++ (ns.take k).flatMap (layB · 1)).length+1≤140737488355328:=by
    rw [List.length_append,List.length_append,iM,MM,List.length_take]
    omega
   have HL:=iC.mk hlen
   clear hlen
   generalize ns.getD k 0=v at hx hts
   go_wp2_with (go_at_call 65;refine (rM _ _ _ _ _ HI.out (HB0.out.trans HK.out.1).size HL.out).mono ?_;rintro e w1 ⟨rfl,hI,hK⟩;have HI1:=iC.mk hI;have HK1:=iC.mk (HK.out.trans hK);clear hI hK)
   go_roundw
   case rel=>exact ⟨k+1,by omega,by go_num,⟨by rw [hts.out,← List.append_assoc];exact HI1.out⟩,HK1⟩
   case measure=>simp [intOf];omega
  ·obtain rfl:k=ns.length:=by omega
   go_wp2
   go_end0
   refine ⟨rfl,?_,HK.out⟩
   have:=HI.out
   rw [List.take_length] at this
   rw [nJ,← List.append_assoc]
   exact this
def JE:jQ:=z149
theorem YB (l:List jQ) (k:Nat):iR l (k:Int)=l.getD k JE:=by unfold iR JE;rw [Int.toNat_natCast]
theorem ZG (f:jQ):(oO f).length=9+4 * f.f0.length:=xC f
set_option maxHeartbeats 4000000 in
theorem IR (b:Nat) (l:List UInt8) (A:Option Addr) (c:Nat) (fs:List jQ) (w0 w:World) (h:Bf w0.heap.size b l w) (hb:Below w0.heap.size w0 w) (hr:Kd.C k149 w0 A fs.length fs) (hl:l.length+(kP fs).length≤140737488355328) :
  Calls Tryz.prog 64 #[.pointer (some ⟨b,0,none⟩),.slice A fs.length c] w fun e w'=>e=.returned (.tuple #[])∧Bf w0.heap.size b (l ++ kP fs) w'∧Kp w0.heap.size b w w':=by
 have HR:=iC.mk hr
 have H0:=iC.mk h
 have HB0:=iC.mk hb
 have hm:=lD hr
 have hl':l.length+4+(fs.flatMap oO).length≤140737488355328:=by
  unfold kP at hl
  rw [List.length_append,iM] at hl
  omega
 clear hr h hb hl
 go_enter Tryz.func64,Tryz.ntmps64
 go_wp2_with (go_at_call 65;refine (pO _ _ l _ _ H0.out HB0.out.size (by omega)).mono ?_;rintro e w1 ⟨rfl,hI,hK⟩;have HI1:=iC.mk hI;have HK1:=iC.mk hK;clear hI hK)
 go_loopw [14] (fun i wr=>∃ k:Nat,k≤fs.length∧i=.int .i64 k∧iC (Bf w0.heap.size b (l ++ layB fs.length 4 ++ (fs.take k).flatMap oO) wr)∧iC (Kp w0.heap.size b w wr)) (fun i _=>fs.length - (intOf i).toNat)
 case atStart=>exact ⟨0,Nat.zero_le _,rfl,⟨by rw [List.take_zero,List.flatMap_nil,List.append_nil];exact HI1.out⟩,HK1⟩
 case round =>
  obtain ⟨k,hk,rfl,HI,HK⟩:=hrel
  clear HI1 HK1
  by_cases hlt:k<fs.length
  ·obtain ⟨ad,A1,c1,rfl,hx0,hx1,hl1,hC1⟩:=kU (Kd.C_below HR.out (HB0.out.trans HK.out.1)) (k:Int) (by omega) (by omega)
   have hC0:Kd.C (Kd.int .i64) w0 A1 (fs.getD k JE).f0.length (fs.getD k JE).f0:=by
    obtain ⟨ad2,A2,c2,e2,hy0,hy1,hl2,hC2⟩:=kU HR.out (k:Int) (by omega) (by omega)
    have hz:=kE (HB0.out.trans HK.out.1) hy0
    injection e2 with e2
    subst e2
    rw [hx0] at hz
    injection hz with hz
    injection hz with hz1 hz2 hz3
    subst hz1
    rw [YB] at hC2
    exact hC2
   rw [YB] at hx0 hx1 hl1
   rw [Int.toNat_natCast] at hx0 hx1
   clear hC1
   have hts:=iC.mk (kV oO JE fs k hlt)
   have hle:=qC oO fs (k+1)
   rw [hts.out,List.length_append,ZG] at hle
   obtain ⟨f,hf⟩:∃ f,f=fs.getD k JE:=⟨_,rfl⟩
   rw [← hf] at hx0 hx1 hl1 hC0 hts hle
   clear hf
   have HC0:=iC.mk hC0
   have hkm:=lD hC0
   obtain ⟨pre,hpre⟩:∃ p,p=l ++ layB fs.length 4 ++ (fs.take k).flatMap oO:=⟨_,rfl⟩
   have hpl:pre.length+9+4 * f.f0.length≤140737488355328:=by
    rw [hpre,List.length_append,List.length_append,iM]
    omega
   have hrest:l ++ layB fs.length 4 ++ (fs.take (k+1)).flatMap oO=pre ++ oO f:=by
    rw [hts.out,← List.append_assoc,hpre]
   rw [← hpre] at HI
   have HREST:=iC.mk hrest
   clear hts hpre hrest hle hC0 hl'
   obtain ⟨wo,rfl⟩:∃ wo:World,wo=wr:=⟨_,rfl⟩
   have HBX:=iC.mk (Bf.alloc HI.out (.cells #[.slice A1 f.f0.length c1,.int .i64 f.f1] 149))
   have HKX:=iC.mk (HK.out.alloc (HB0.out.trans HK.out.1).size (.cells #[.slice A1 f.f0.length c1,.int .i64 f.f1] 149))
   have hbne:w.heap.size≤w.heap.size:=Nat.le_refl _
   have HNE:=iC.mk (show wo.heap.size≠b from by have:=HI.out.lt;omega)
   clear hbne
   go_wp2_with (go_at_call 65;refine (rM _ _ pre _ _ HBX.out (HB0.out.trans HKX.out.1).size (by omega)).mono ?_;rintro e w1 ⟨rfl,hI,hK⟩;have HI1:=iC.mk hI;have HK1:=iC.mk (HKX.out.trans hK);have hblk:=hK.block (iP rfl) HNE.out (by decide);have HBL:=iC.mk hblk;clear hI hK;have hz0:=(iG hblk 0);have hz1:=(iG hblk 1);have hz0:w1.cell? ⟨wo.heap.size,0,none⟩=some (.slice A1 f.f0.length c1):=hz0.trans rfl;have hz1:w1.cell? ⟨wo.heap.size,1,none⟩=some (.int .i64 f.f1):=hz1.trans rfl;clear hblk)
   clear hz0 hz1
   go_loopw [26] (fun i wi=>∃ m:Nat,m≤f.f0.length∧i=.int .i64 m∧iC (Bf w0.heap.size b (pre ++ layB f.f0.length 1 ++ (f.f0.take m).flatMap (layB · 4)) wi)∧iC (Kp w0.heap.size b w wi)∧iC (wi.heap[wo.heap.size]? = some (.cells #[.slice A1 f.f0.length c1,.int .i64 f.f1] 149 (0,0)))) (fun i _=>f.f0.length - (intOf i).toNat)
   case atStart=>exact ⟨0,Nat.zero_le _,rfl,⟨by rw [List.take_zero,List.flatMap_nil,List.append_nil];exact HI1.out⟩,HK1,HBL⟩
   case round =>
    obtain ⟨m,hmx,rfl,HIm,HKm,HBm⟩:=hrel
    clear HI1 HK1 HBL
    have hcap:(pre ++ layB f.f0.length 1 ++ (f.f0.take m).flatMap (layB · 4)).length+8≤140737488355328:=by
     rw [List.length_append,List.length_append,iM,MM,List.length_take]
     omega
    by_cases hml:m<f.f0.length
    ·have HL:=iC.mk (show (pre ++ layB f.f0.length 1 ++ (f.f0.take m).flatMap (layB · 4)).length+4≤140737488355328 from by omega)
     obtain ⟨ad2,rfl,hx⟩:=Kd.at_int (Kd.C_below HC0.out (HB0.out.trans HKm.out.1)) (m:Int) (by omega) (by omega)
     rw [je6,Int.toNat_natCast] at hx
     have hts:=iC.mk (kV (layB · 4) 0 f.f0 m hml)
     generalize f.f0.getD m 0=v at hx hts
     clear hcap
     go_wp2_with (go_at_call 65;refine (pO _ _ _ _ _ HIm.out (HB0.out.trans HKm.out.1).size HL.out).mono ?_;rintro e w1 ⟨rfl,hI,hK⟩;have HI1:=iC.mk hI;have HK1:=iC.mk (HKm.out.trans hK);have HB1:=iC.mk (hK.block HBm.out HNE.out (by decide));clear hI hK)
     go_roundw
     case rel=>exact ⟨m+1,by omega,by go_num,⟨by rw [hts.out,← List.append_assoc];exact HI1.out⟩,HK1,HB1⟩
     case measure=>simp [intOf];omega
    ·obtain rfl:m=f.f0.length:=by omega
     have hI':=HIm.out
     rw [List.take_length] at hI' hcap
     have HI':=iC.mk hI'
     have HCAP:=iC.mk hcap
     clear hI' hcap HIm
     have hz1:wr.cell? ⟨wo.heap.size,1,none⟩=some (.int .i64 f.f1):=(iG HBm.out 1).trans rfl
     go_wp2_with (go_at_call 97;refine (jg9 _ _ _ _ _ HI'.out (HB0.out.trans HKm.out.1).size HCAP.out).mono ?_;rintro e w1 ⟨rfl,hI,hK⟩;have HI1:=iC.mk hI;have HK1:=iC.mk (HKm.out.trans hK);clear hI hK)
     go_roundw
     case rel=>exact ⟨k+1,by omega,by go_num,⟨by rw [HREST.out,oO,← List.append_assoc,← List.append_assoc];exact HI1.out⟩,HK1⟩
     case measure=>simp [intOf];omega
  ·obtain rfl:k=fs.length:=by omega
   go_wp2
   go_end0
   refine ⟨rfl,?_,HK.out⟩
   have:=HI.out
   rw [List.take_length] at this
   rw [kP,← List.append_assoc]
   exact this
def yC:jJ:=z114
theorem YG (l:List jJ) (k:Nat):iK l (k:Int)=l.getD k yC:=by unfold iK yC;rw [Int.toNat_natCast]
set_option maxHeartbeats 4000000 in
theorem IK (b:Nat) (l:List UInt8) (A:Option Addr) (c:Nat) (es:List jJ) (w0 w:World) (h:Bf w0.heap.size b l w) (hb:Below w0.heap.size w0 w) (hr:Kd.C k114 w0 A es.length es) (hl:l.length+(jZ es).length≤140737488355328) :
  Calls Tryz.prog 66 #[.pointer (some ⟨b,0,none⟩),.slice A es.length c] w fun e w'=>e=.returned (.tuple #[])∧Bf w0.heap.size b (l ++ jZ es) w'∧Kp w0.heap.size b w w':=by
 have HR:=iC.mk hr
 have H0:=iC.mk h
 have HB0:=iC.mk hb
 have hm:=lD hr
 have hl':l.length+4+(es.flatMap lV).length≤140737488355328:=by
  unfold jZ at hl
  rw [List.length_append,iM] at hl
  omega
 clear hr h hb hl
 go_enter Tryz.func66,Tryz.ntmps66
 go_wp2_with (go_at_call 65;refine (pO _ _ l _ _ H0.out HB0.out.size (by omega)).mono ?_;rintro e w1 ⟨rfl,hI,hK⟩;have HI1:=iC.mk hI;have HK1:=iC.mk hK;clear hI hK)
 go_loopw [12] (fun i wr=>∃ k:Nat,k≤es.length∧i=.int .i64 k∧iC (Bf w0.heap.size b (l ++ layB es.length 4 ++ (es.take k).flatMap lV) wr)∧iC (Kp w0.heap.size b w wr)) (fun i _=>es.length - (intOf i).toNat)
 case atStart=>exact ⟨0,Nat.zero_le _,rfl,⟨by rw [List.take_zero,List.flatMap_nil,List.append_nil];exact HI1.out⟩,HK1⟩
 case round =>
  obtain ⟨k,hk,rfl,HI,HK⟩:=hrel
  clear HI1 HK1
  by_cases hlt:k<es.length
  ·obtain ⟨ad,A1,c1,rfl,hx0,hx1,hl1,hC1⟩:=kN (Kd.C_below HR.out (HB0.out.trans HK.out.1)) (k:Int) (by omega) (by omega)
   have hC0:Kd.C k149 w0 A1 (es.getD k yC).f1.length (es.getD k yC).f1:=by
    obtain ⟨ad2,A2,c2,e2,hy0,hy1,hl2,hC2⟩:=kN HR.out (k:Int) (by omega) (by omega)
    have hz:=kE (HB0.out.trans HK.out.1) hy1
    injection e2 with e2
    subst e2
    rw [hx1] at hz
    injection hz with hz
    injection hz with hz1 hz2 hz3
    subst hz1
    rw [YG] at hC2
    exact hC2
   rw [YG] at hx0 hx1 hl1
   rw [Int.toNat_natCast] at hx0 hx1
   clear hC1
   have hts:=iC.mk (kV lV yC es k hlt)
   have hle:=qC lV es (k+1)
   rw [hts.out,List.length_append] at hle
   obtain ⟨f,hf⟩:∃ f,f=es.getD k yC:=⟨_,rfl⟩
   rw [← hf] at hx0 hx1 hl1 hC0 hts hle
   clear hf
   have HC0:=iC.mk hC0
   have hkm:=lD hC0
   obtain ⟨pre,hpre⟩:∃ p,p=l ++ layB es.length 4 ++ (es.take k).flatMap lV:=⟨_,rfl⟩
   have hpl:pre.length+4+(kP f.f1).length≤140737488355328:=by
    rw [lV,List.length_append,iM] at hle
    rw [hpre,List.length_append,List.length_append,iM]
    omega
   have HPL:=iC.mk (show (pre ++ layB f.f0 4).length+(kP f.f1).length≤140737488355328 from by rw [List.length_append,iM];exact hpl)
   have hpl4:pre.length+4≤140737488355328:=by omega
   have HPL4:=iC.mk hpl4
   have hrest:l ++ layB es.length 4 ++ (es.take (k+1)).flatMap lV=pre ++ lV f:=by
    rw [hts.out,← List.append_assoc,hpre]
   rw [← hpre] at HI
   have HREST:=iC.mk hrest
   clear hts hpre hrest hle hC0 hl' hpl hpl4
   obtain ⟨wo,rfl⟩:∃ wo:World,wo=wr:=⟨_,rfl⟩
   have HBX:=iC.mk (Bf.alloc HI.out (.cells #[.int .u32 f.f0,.slice A1 f.f1.length c1] 114))
   have HKX:=iC.mk (HK.out.alloc (HB0.out.trans HK.out.1).size (.cells #[.int .u32 f.f0,.slice A1 f.f1.length c1] 114))
   have HNE:=iC.mk (show wo.heap.size≠b from by have:=HI.out.lt;omega)
   go_wp2_with (first | (go_at_call 62;refine (mG _ _ pre _ _ HBX.out (HB0.out.trans HKX.out.1).size HPL4.out).mono ?_;rintro e w1 ⟨rfl,hI,hK⟩;have HI1:=iC.mk hI;have HK1:=iC.mk (HKX.out.trans hK);have hblk:=hK.block (iP rfl) HNE.out (by decide);clear hI hK;have hz1:=(iG hblk 1);have hz1:w1.cell? ⟨wo.heap.size,1,none⟩=some (.slice A1 f.f1.length c1):=hz1.trans rfl;clear hblk) | (go_at_call 64;refine (IR _ _ _ _ f.f1 w0 _ HI1.out (HB0.out.trans HK1.out.1) HC0.out HPL.out).mono ?_;rintro e w2 ⟨rfl,hI,hK⟩;have HI2:=iC.mk hI;have HK2:=iC.mk (HK1.out.trans hK);clear hI hK))
   go_roundw
   case rel=>exact ⟨k+1,by omega,by go_num,⟨by rw [HREST.out,lV,← List.append_assoc];exact HI2.out⟩,HK2⟩
   case measure=>simp [intOf];omega
  ·obtain rfl:k=es.length:=by omega
   go_wp2
   go_end0
   refine ⟨rfl,?_,HK.out⟩
   have:=HI.out
   rw [List.take_length] at this
   rw [jZ,← List.append_assoc]
   exact this
theorem xY (l:List jQ) (h:mO l=true):(kP l).length≤5004:=by
 unfold mO at h
 simp only [Bool.and_eq_true,decide_eq_true_eq,List.all_eq_true] at h
 obtain ⟨h1,h2⟩:=h
 have:∀ l:List jQ,(∀ f∈l,pU f=true)→(l.flatMap oO).length≤25 * l.length:=by
  intro l
  induction l with
  | nil=>intro _;simp
  | cons f l ih =>
   intro hf
   have h3:=hf f List.mem_cons_self
   unfold pU at h3
   simp only [Bool.and_eq_true,decide_eq_true_eq] at h3
   have:=ih (fun g hg=>hf g (List.mem_cons_of_mem _ hg))
   rw [List.flatMap_cons,List.length_append,xC,List.length_cons]
   omega
 have:=this l h2
 unfold kP
 rw [List.length_append,iM]
 omega
theorem vX (l:List jJ) (h:oN l=true) (h5:l.length≤5000):(jZ l).length≤25040004:=by
 have:∀ l:List jJ,(∀ e∈l,mO e.f1=true)→(l.flatMap lV).length≤5008 * l.length:=by
  intro l
  induction l with
  | nil=>intro _;simp
  | cons e l ih =>
   intro hf
   have h3:=xY _ (hf e List.mem_cons_self)
   have:=ih (fun g hg=>hf g (List.mem_cons_of_mem _ hg))
   rw [List.flatMap_cons,List.length_append,List.length_cons,lV,List.length_append,iM]
   omega
 have:=this l (IM l h)
 unfold jZ
 rw [List.length_append,iM]
 omega
theorem rC (l:List Int) (h:nK (-1) l=true):l.length≤6:=by
 have:=(vZ l (-1) h (by omega)).2
 omega
end
end Go.Proofs.YtgfkgppomaapiaaGreatDoor.K
section
namespace Go.Proofs.YtgfkgppomaapiaaGreatDoor.K
open RowKit YtgfkgppomaapiaaGreatDoorW.PrintWords YtgfkgppomaapiaaGreatDoorW.PrintLast YtgfkgppomaapiaaGreatDoorW.PrintMore My
def nums (l:List UInt8):List Int:=l.map fun c=>(c.toNat:Int)
theorem jM (l:List UInt8):(nums l).length=l.length:=List.length_map ..
def encR (r:SRec):List Int × Int:=if jR r=true then (if 60000<(recE r).length then ([],3) else (nums (recE r),0)) else ([],1)
def code_Encode.f (a0_0:Int) (a0_1:Int) (a0_2:Int) (l0_3:List Int) (l0_4:List jQ) (a0_5:Int) (l0_6:List kC) (a0_7:Int) (a0_8:Int) (l0_9:List jJ):Option (List Int × Int) :=
 some (encR ⟨a0_0,a0_1,a0_2,l0_3,l0_4,⟨a0_5,l0_6⟩,a0_7,a0_8,l0_9⟩)
theorem rO {w:World} {B base:Nat} {v:Value} {l:List UInt8} (h:w.ownsRow B 5 1 v (Lib.byteCells l).length (Lib.byteCells l)) (hb:base≤B):Kd.R (Kd.int .u8) 5 w base (fun _=>True) v (nums l):=by
 refine Kd.R_lower (Kd.R_of_own ?_ (fun _ _=>trivial)) hb
 have e:Lib.byteCells l=encs (Value.int .u8) (nums l):=by simp [Lib.byteCells,encs,nums]
 have e2:(nums l).length=(Lib.byteCells l).length:=by rw [jM,Lib.byteCells_length]
 rw [e2,← e]
 exact h
theorem jB (l:List Int):(nJ l).length=1+l.length:=by unfold nJ;rw [List.length_append,iM,MM];omega
def rE (w:World) (r:List Int × Int) (e:Ending) (w':World):Prop:=∃ v0_:Value,e=.returned (.tuple #[v0_,.int .u16 r.2])∧Kd.R (Kd.int .u8) 5 w' w.heap.size (fun _=>True) v0_ r.1∧Below w.heap.size w w'
theorem jh_ (a1 a2:Int) (l3:List Int) (l4:List jQ) (a5:Int) (l6:List kC) (a7 a8:Int) (l9:List jJ):recE ⟨1,a1,a2,l3,l4,⟨a5,l6⟩,a7,a8,l9⟩=[] ++ layB 1 1 ++ layB a1 4 ++ nJ l3 ++ kP l4:=by
 simp [recE,MI]
theorem ji9 (a1 a2:Int) (l3:List Int) (l4:List jQ) (a5:Int) (l6:List kC) (a7 a8:Int) (l9:List jJ):recE ⟨2,a1,a2,l3,l4,⟨a5,l6⟩,a7,a8,l9⟩=[] ++ layB 2 1 ++ layB a1 4 ++ layB a2 4 ++ nJ l3:=by
 simp [recE,MI]
theorem jf7 (a1 a2:Int) (l3:List Int) (l4:List jQ) (a5:Int) (l6:List kC) (a7 a8:Int) (l9:List jJ):recE ⟨3,a1,a2,l3,l4,⟨a5,l6⟩,a7,a8,l9⟩=[] ++ layB 3 1 ++ layB a1 4:=by
 simp [recE,MI]
theorem jg5 (a1 a2:Int) (l3:List Int) (l4:List jQ) (a5:Int) (l6:List kC) (a7 a8:Int) (l9:List jJ):recE ⟨4,a1,a2,l3,l4,⟨a5,l6⟩,a7,a8,l9⟩=[] ++ layB 4 1 ++ layB a1 4:=by
 simp [recE,MI]
theorem jg8 (a1 a2:Int) (l3:List Int) (l4:List jQ) (a5:Int) (l6:List kC) (a7 a8:Int) (l9:List jJ):recE ⟨5,a1,a2,l3,l4,⟨a5,l6⟩,a7,a8,l9⟩=[] ++ layB 5 1 ++ layB a1 4:=by
 simp [recE,MI]
theorem jk3 (a1 a2:Int) (l3:List Int) (l4:List jQ) (a5:Int) (l6:List kC) (a7 a8:Int) (l9:List jJ):recE ⟨7,a1,a2,l3,l4,⟨a5,l6⟩,a7,a8,l9⟩=[] ++ layB 7 1 ++ layB a1 4 ++ layB a7 4 ++ layB a8 4 ++ jZ l9:=by
 simp [recE,MI]
theorem jh3 (a1 a2:Int) (l3:List Int) (l4:List jQ) (a5:Int) (l6:List kC) (a7 a8:Int) (l9:List jJ):recE ⟨6,a1,a2,l3,l4,⟨a5,l6⟩,a7,a8,l9⟩=[] ++ layB 6 1 ++ layB a1 4 ++ layB a5 4 ++ layB l6.length 1 ++ l6.flatMap oH:=by
 simp [recE,MI,TQ]
theorem yO (l:List kC):(l.flatMap oH).length=5 * l.length:=by
 induction l with
 | nil=>rfl
 | cons x l ih=>rw [List.flatMap_cons,List.length_append,ih,oH,List.length_append,iM,iM,List.length_cons];omega
theorem Y3 (l:List kC) (k:Nat):jO l (k:Int)=l.getD k I5:=by unfold jO I5;rw [Int.toNat_natCast]
section
variable (a0 a1 a2:Int) (A3:Option Addr) (c3:Nat) (l3:List Int) (A4:Option Addr) (c4:Nat) (l4:List jQ) (a5:Int) (A6:Option Addr) (c6:Nat) (l6:List kC) (a7 a8:Int) (A9:Option Addr) (c9:Nat) (l9:List jJ) (w:World)
 (h3:Kd.C (Kd.int .i64) w A3 l3.length l3) (d3:l3.length≤c3) (h4:Kd.C k149 w A4 l4.length l4) (d4:l4.length≤c4) (h6:Kd.C k122 w A6 l6.length l6) (d6:l6.length≤c6) (h9:Kd.C k114 w A9 l9.length l9) (d9:l9.length≤c9)
include h3 d3 h4 d4 h6 d6 h9 d9
set_option maxHeartbeats 8000000 in
set_option maxRecDepth 20000 in
theorem j5_ (hs:jR ⟨1,a1,a2,l3,l4,⟨a5,l6⟩,a7,a8,l9⟩=true):Calls Tryz.prog 41 #[.agg #[.int .u8 1,.int .u32 a1,.int .u32 a2,.slice A3 l3.length c3,.slice A4 l4.length c4,.int .u32 a5,.slice A6 l6.length c6,.int .i64 a7,.int .i64 a8,.slice A9 l9.length c9]] w (rE w (encR ⟨1,a1,a2,l3,l4,⟨a5,l6⟩,a7,a8,l9⟩)):=by
 have H3:=iC.mk h3;have H4:=iC.mk h4;have H6:=iC.mk h6;have H9:=iC.mk h9
 clear h3 h4 h6 h9
 have HS:=iC.mk hs
 have hl3:l3.length≤6∧(kP l4).length≤5004:=by
  have h:=HS.out
  rw [WF,Bool.and_eq_true,Bool.and_eq_true] at h
  exact ⟨rC _ h.1.1,xY _ h.1.2⟩
 obtain ⟨q3,q4⟩:=hl3
 unfold encR
 rw [if_pos HS.out]
 have hm3:=lD H3.out
 have hm6:=lD H6.out
 obtain ⟨X,hX⟩:∃ X:List UInt8,X=recE ⟨1,a1,a2,l3,l4,⟨a5,l6⟩,a7,a8,l9⟩:=⟨_,rfl⟩
 rw [← hX]
 have HX:=iC.mk hX
 have HLEN:=iC.mk (show X.length=_ from congrArg List.length (hX.trans (jh_ _ _ _ _ _ _ _ _ _)))
 clear hs hX
 by_cases hbig:60000<X.length
 ·rw [if_pos hbig]
  have hbigI:(60000:Int)<(X.length:Int):=by omega
  clear hbig
  go_enter Tryz.func41,Tryz.ntmps41
  go_wp2_with (first | (go_at_call 60;refine (code_Sound.calls 1 a1 a2 A3 c3 l3 A4 c4 l4 a5 A6 c6 l6 a7 a8 A9 c9 l9 _ _ (Kd.C_below H3.out bel_) d3 (Kd.C_below H4.out bel_) d4 (Kd.C_below H6.out bel_) d6 (Kd.C_below H9.out bel_) d9 rfl).mono ?_;rintro e w1 ⟨rfl,hb1⟩;rw [HS.out];have HBW:=iC.mk (show Below w.heap.size w w1 from iH (iD (Below.refl _ _) _) hb1);have HBK:=iC.mk (iI hb1 (iP rfl));clear hb1;have HI0:=iC.mk (Bf.fresh w1);have HK0:=iC.mk ((Kp.refl w1.heap.size w1.heap.size w1).alloc (Nat.le_refl _) (.cells #[.slice none 0 0,.int .i64 0,.int .i8 0] 65));obtain ⟨z0,z1,z2,z3,z4,z5,z6,z7,z8,z9,y0,y1,y2,y3,y4,y5,y6,y7,y8,y9⟩:=ten (jI (o:=(.cells #[.slice none 0 0,.int .i64 0,.int .i8 0] 65)) HBK.out);clear y0 y1 y2 y3 y4 y5 y6 y7 y8 y9) | (go_at_call 61;refine (qG w1.heap.size w1.heap.size _ _ _ HI0.out HK0.out.1.size (by first | omega | (simp only [List.length_append,iM,List.length_nil,jB];omega))).mono ?_;rintro e w2 ⟨rfl,hI,hK⟩;have HI1:=iC.mk hI;have HK1:=iC.mk (HK0.out.trans hK);clear hI hK z0 z1 z2 z3 z4 z5 z6 z7 z8 z9;obtain ⟨z0,z1,z2,z3,z4,z5,z6,z7,z8,z9,y0,y1,y2,y3,y4,y5,y6,y7,y8,y9⟩:=ten (iI HK1.out.1 HBK.out);clear y0 y1 y2 y3 y4 y5 y6 y7 y8 y9) | (go_at_call 62;refine (mG w1.heap.size w1.heap.size _ _ _ HI1.out HK1.out.1.size (by first | omega | (simp only [List.length_append,iM,List.length_nil,jB];omega))).mono ?_;rintro e w3 ⟨rfl,hI,hK⟩;have HI2:=iC.mk hI;have HK2:=iC.mk (HK1.out.trans hK);clear hI hK z0 z1 z2 z3 z4 z5 z6 z7 z8 z9;obtain ⟨z0,z1,z2,z3,z4,z5,z6,z7,z8,z9,y0,y1,y2,y3,y4,y5,y6,y7,y8,y9⟩:=ten (iI HK2.out.1 HBK.out);clear y0 y1 y2 y3 y4 y5 y6 y7 y8 y9) | (go_at_call 63;refine (xX w1.heap.size _ _ _ l3 w1 _ HI2.out HK2.out.1 (Kd.C_below H3.out HBW.out) (by first | omega | (simp only [List.length_append,iM,List.length_nil,jB];omega))).mono ?_;rintro e w4 ⟨rfl,hI,hK⟩;have HI3:=iC.mk hI;have HK3:=iC.mk (HK2.out.trans hK);clear hI hK z0 z1 z2 z3 z4 z5 z6 z7 z8 z9;obtain ⟨z0,z1,z2,z3,z4,z5,z6,z7,z8,z9,y0,y1,y2,y3,y4,y5,y6,y7,y8,y9⟩:=ten (iI HK3.out.1 HBK.out);clear y0 y1 y2 y3 y4 y5 y6 y7 y8 y9) | (go_at_call 64;refine (IR w1.heap.size _ _ _ l4 w1 _ HI3.out HK3.out.1 (Kd.C_below H4.out HBW.out) (by first | omega | (simp only [List.length_append,iM,List.length_nil,jB];omega))).mono ?_;rintro e w5 ⟨rfl,hI,hK⟩;have HI4:=iC.mk hI;have HK4:=iC.mk (HK3.out.trans hK);clear hI hK z0 z1 z2 z3 z4 z5 z6 z7 z8 z9;obtain ⟨z0,z1,z2,z3,z4,z5,z6,z7,z8,z9,y0,y1,y2,y3,y4,y5,y6,y7,y8,y9⟩:=ten (iI HK4.out.1 HBK.out);clear y0 y1 y2 y3 y4 y5 y6 y7 y8 y9) | (go_at_call 26;refine (Tryz.Buffer_Len w1.heap.size w1.heap.size _ _ (HI4.out)).mono ?_;rintro e wl ⟨rfl,nl,rfl⟩;rw [Lib.byteCells_length,← HLEN.out]))
  go_ret2
  exact ⟨_,rfl,Kd.R_nil _ _ _ _ _,by have hz:=HBW.out;have hy:=HK4.out.1;exact iF (iH hz hy) _⟩
 ·rw [if_neg hbig]
  have hbigI:¬ (60000:Int)<(X.length:Int):=by omega
  clear hbig
  go_enter Tryz.func41,Tryz.ntmps41
  go_wp2_with (first | (go_at_call 60;refine (code_Sound.calls 1 a1 a2 A3 c3 l3 A4 c4 l4 a5 A6 c6 l6 a7 a8 A9 c9 l9 _ _ (Kd.C_below H3.out bel_) d3 (Kd.C_below H4.out bel_) d4 (Kd.C_below H6.out bel_) d6 (Kd.C_below H9.out bel_) d9 rfl).mono ?_;rintro e w1 ⟨rfl,hb1⟩;rw [HS.out];have HBW:=iC.mk (show Below w.heap.size w w1 from iH (iD (Below.refl _ _) _) hb1);have HBK:=iC.mk (iI hb1 (iP rfl));clear hb1;have HI0:=iC.mk (Bf.fresh w1);have HK0:=iC.mk ((Kp.refl w1.heap.size w1.heap.size w1).alloc (Nat.le_refl _) (.cells #[.slice none 0 0,.int .i64 0,.int .i8 0] 65));obtain ⟨z0,z1,z2,z3,z4,z5,z6,z7,z8,z9,y0,y1,y2,y3,y4,y5,y6,y7,y8,y9⟩:=ten (jI (o:=(.cells #[.slice none 0 0,.int .i64 0,.int .i8 0] 65)) HBK.out);clear y0 y1 y2 y3 y4 y5 y6 y7 y8 y9) | (go_at_call 61;refine (qG w1.heap.size w1.heap.size _ _ _ HI0.out HK0.out.1.size (by first | omega | (simp only [List.length_append,iM,List.length_nil,jB];omega))).mono ?_;rintro e w2 ⟨rfl,hI,hK⟩;have HI1:=iC.mk hI;have HK1:=iC.mk (HK0.out.trans hK);clear hI hK z0 z1 z2 z3 z4 z5 z6 z7 z8 z9;obtain ⟨z0,z1,z2,z3,z4,z5,z6,z7,z8,z9,y0,y1,y2,y3,y4,y5,y6,y7,y8,y9⟩:=ten (iI HK1.out.1 HBK.out);clear y0 y1 y2 y3 y4 y5 y6 y7 y8 y9) | (go_at_call 62;refine (mG w1.heap.size w1.heap.size _ _ _ HI1.out HK1.out.1.size (by first | omega | (simp only [List.length_append,iM,List.length_nil,jB];omega))).mono ?_;rintro e w3 ⟨rfl,hI,hK⟩;have HI2:=iC.mk hI;have HK2:=iC.mk (HK1.out.trans hK);clear hI hK z0 z1 z2 z3 z4 z5 z6 z7 z8 z9;obtain ⟨z0,z1,z2,z3,z4,z5,z6,z7,z8,z9,y0,y1,y2,y3,y4,y5,y6,y7,y8,y9⟩:=ten (iI HK2.out.1 HBK.out);clear y0 y1 y2 y3 y4 y5 y6 y7 y8 y9) | (go_at_call 63;refine (xX w1.heap.size _ _ _ l3 w1 _ HI2.out HK2.out.1 (Kd.C_below H3.out HBW.out) (by first | omega | (simp only [List.length_append,iM,List.length_nil,jB];omega))).mono ?_;rintro e w4 ⟨rfl,hI,hK⟩;have HI3:=iC.mk hI;have HK3:=iC.mk (HK2.out.trans hK);clear hI hK z0 z1 z2 z3 z4 z5 z6 z7 z8 z9;obtain ⟨z0,z1,z2,z3,z4,z5,z6,z7,z8,z9,y0,y1,y2,y3,y4,y5,y6,y7,y8,y9⟩:=ten (iI HK3.out.1 HBK.out);clear y0 y1 y2 y3 y4 y5 y6 y7 y8 y9) | (go_at_call 64;refine (IR w1.heap.size _ _ _ l4 w1 _ HI3.out HK3.out.1 (Kd.C_below H4.out HBW.out) (by first | omega | (simp only [List.length_append,iM,List.length_nil,jB];omega))).mono ?_;rintro e w5 ⟨rfl,hI,hK⟩;have HI4:=iC.mk hI;have HK4:=iC.mk (HK3.out.trans hK);clear hI hK z0 z1 z2 z3 z4 z5 z6 z7 z8 z9;obtain ⟨z0,z1,z2,z3,z4,z5,z6,z7,z8,z9,y0,y1,y2,y3,y4,y5,y6,y7,y8,y9⟩:=ten (iI HK4.out.1 HBK.out);clear y0 y1 y2 y3 y4 y5 y6 y7 y8 y9) | (go_at_call 26;refine (Tryz.Buffer_Len w1.heap.size w1.heap.size _ _ (HI4.out)).mono ?_;rintro e wl ⟨rfl,nl,rfl⟩;rw [Lib.byteCells_length,← HLEN.out]) | (go_at_call 39;refine (Tryz.Buffer_Bytes w1.heap.size w1.heap.size _ _ (HI4.out.drewN _)).mono ?_;rintro e wb ⟨v,rfl,hv,nb,rfl⟩;have HV:=iC.mk hv;clear hv))
  go_ret2
  exact ⟨_,rfl,by rw [HX.out,jh_];exact rO HV.out HBW.out.size,by have hz:=HBW.out;have hy:=HK4.out.1;exact iF (iH hz hy) _⟩
set_option maxHeartbeats 8000000 in
set_option maxRecDepth 20000 in
theorem jb0 (hs:jR ⟨2,a1,a2,l3,l4,⟨a5,l6⟩,a7,a8,l9⟩=true):Calls Tryz.prog 41 #[.agg #[.int .u8 2,.int .u32 a1,.int .u32 a2,.slice A3 l3.length c3,.slice A4 l4.length c4,.int .u32 a5,.slice A6 l6.length c6,.int .i64 a7,.int .i64 a8,.slice A9 l9.length c9]] w (rE w (encR ⟨2,a1,a2,l3,l4,⟨a5,l6⟩,a7,a8,l9⟩)):=by
 have H3:=iC.mk h3;have H4:=iC.mk h4;have H6:=iC.mk h6;have H9:=iC.mk h9
 clear h3 h4 h6 h9
 have HS:=iC.mk hs
 have q3:l3.length≤6:=by
  have h:=HS.out
  rw [XE,Bool.and_eq_true] at h
  exact rC _ h.1
 unfold encR
 rw [if_pos HS.out]
 have hm3:=lD H3.out
 have hm6:=lD H6.out
 obtain ⟨X,hX⟩:∃ X:List UInt8,X=recE ⟨2,a1,a2,l3,l4,⟨a5,l6⟩,a7,a8,l9⟩:=⟨_,rfl⟩
 rw [← hX]
 have HX:=iC.mk hX
 have HLEN:=iC.mk (show X.length=_ from congrArg List.length (hX.trans (ji9 _ _ _ _ _ _ _ _ _)))
 clear hs hX
 by_cases hbig:60000<X.length
 ·rw [if_pos hbig]
  have hbigI:(60000:Int)<(X.length:Int):=by omega
  clear hbig
  go_enter Tryz.func41,Tryz.ntmps41
  go_wp2_with (first | (go_at_call 60;refine (code_Sound.calls 2 a1 a2 A3 c3 l3 A4 c4 l4 a5 A6 c6 l6 a7 a8 A9 c9 l9 _ _ (Kd.C_below H3.out bel_) d3 (Kd.C_below H4.out bel_) d4 (Kd.C_below H6.out bel_) d6 (Kd.C_below H9.out bel_) d9 rfl).mono ?_;rintro e w1 ⟨rfl,hb1⟩;rw [HS.out];have HBW:=iC.mk (show Below w.heap.size w w1 from iH (iD (Below.refl _ _) _) hb1);have HBK:=iC.mk (iI hb1 (iP rfl));clear hb1;have HI0:=iC.mk (Bf.fresh w1);have HK0:=iC.mk ((Kp.refl w1.heap.size w1.heap.size w1).alloc (Nat.le_refl _) (.cells #[.slice none 0 0,.int .i64 0,.int .i8 0] 65));obtain ⟨z0,z1,z2,z3,z4,z5,z6,z7,z8,z9,y0,y1,y2,y3,y4,y5,y6,y7,y8,y9⟩:=ten (jI (o:=(.cells #[.slice none 0 0,.int .i64 0,.int .i8 0] 65)) HBK.out);clear y0 y1 y2 y3 y4 y5 y6 y7 y8 y9) | (go_at_call 61;refine (qG w1.heap.size w1.heap.size _ _ _ HI0.out HK0.out.1.size (by first | omega | (simp only [List.length_append,iM,List.length_nil,jB];omega))).mono ?_;rintro e w2 ⟨rfl,hI,hK⟩;have HI1:=iC.mk hI;have HK1:=iC.mk (HK0.out.trans hK);clear hI hK z0 z1 z2 z3 z4 z5 z6 z7 z8 z9;obtain ⟨z0,z1,z2,z3,z4,z5,z6,z7,z8,z9,y0,y1,y2,y3,y4,y5,y6,y7,y8,y9⟩:=ten (iI HK1.out.1 HBK.out);clear y0 y1 y2 y3 y4 y5 y6 y7 y8 y9) | (go_at_call 62;refine (mG w1.heap.size w1.heap.size _ _ _ HI1.out HK1.out.1.size (by first | omega | (simp only [List.length_append,iM,List.length_nil,jB];omega))).mono ?_;rintro e w3 ⟨rfl,hI,hK⟩;have HI2:=iC.mk hI;have HK2:=iC.mk (HK1.out.trans hK);clear hI hK z0 z1 z2 z3 z4 z5 z6 z7 z8 z9;obtain ⟨z0,z1,z2,z3,z4,z5,z6,z7,z8,z9,y0,y1,y2,y3,y4,y5,y6,y7,y8,y9⟩:=ten (iI HK2.out.1 HBK.out);clear y0 y1 y2 y3 y4 y5 y6 y7 y8 y9) | (go_at_call 62;refine (mG w1.heap.size w1.heap.size _ _ _ HI2.out HK2.out.1.size (by first | omega | (simp only [List.length_append,iM,List.length_nil,jB];omega))).mono ?_;rintro e w4 ⟨rfl,hI,hK⟩;have HI3:=iC.mk hI;have HK3:=iC.mk (HK2.out.trans hK);clear hI hK z0 z1 z2 z3 z4 z5 z6 z7 z8 z9;obtain ⟨z0,z1,z2,z3,z4,z5,z6,z7,z8,z9,y0,y1,y2,y3,y4,y5,y6,y7,y8,y9⟩:=ten (iI HK3.out.1 HBK.out);clear y0 y1 y2 y3 y4 y5 y6 y7 y8 y9) | (go_at_call 63;refine (xX w1.heap.size _ _ _ l3 w1 _ HI3.out HK3.out.1 (Kd.C_below H3.out HBW.out) (by first | omega | (simp only [List.length_append,iM,List.length_nil,jB];omega))).mono ?_;rintro e w5 ⟨rfl,hI,hK⟩;have HI4:=iC.mk hI;have HK4:=iC.mk (HK3.out.trans hK);clear hI hK z0 z1 z2 z3 z4 z5 z6 z7 z8 z9;obtain ⟨z0,z1,z2,z3,z4,z5,z6,z7,z8,z9,y0,y1,y2,y3,y4,y5,y6,y7,y8,y9⟩:=ten (iI HK4.out.1 HBK.out);clear y0 y1 y2 y3 y4 y5 y6 y7 y8 y9) | (go_at_call 26;refine (Tryz.Buffer_Len w1.heap.size w1.heap.size _ _ (HI4.out)).mono ?_;rintro e wl ⟨rfl,nl,rfl⟩;rw [Lib.byteCells_length,← HLEN.out]))
  go_ret2
  exact ⟨_,rfl,Kd.R_nil _ _ _ _ _,by have hz:=HBW.out;have hy:=HK4.out.1;exact iF (iH hz hy) _⟩
 ·rw [if_neg hbig]
  have hbigI:¬ (60000:Int)<(X.length:Int):=by omega
  clear hbig
  go_enter Tryz.func41,Tryz.ntmps41
  go_wp2_with (first | (go_at_call 60;refine (code_Sound.calls 2 a1 a2 A3 c3 l3 A4 c4 l4 a5 A6 c6 l6 a7 a8 A9 c9 l9 _ _ (Kd.C_below H3.out bel_) d3 (Kd.C_below H4.out bel_) d4 (Kd.C_below H6.out bel_) d6 (Kd.C_below H9.out bel_) d9 rfl).mono ?_;rintro e w1 ⟨rfl,hb1⟩;rw [HS.out];have HBW:=iC.mk (show Below w.heap.size w w1 from iH (iD (Below.refl _ _) _) hb1);have HBK:=iC.mk (iI hb1 (iP rfl));clear hb1;have HI0:=iC.mk (Bf.fresh w1);have HK0:=iC.mk ((Kp.refl w1.heap.size w1.heap.size w1).alloc (Nat.le_refl _) (.cells #[.slice none 0 0,.int .i64 0,.int .i8 0] 65));obtain ⟨z0,z1,z2,z3,z4,z5,z6,z7,z8,z9,y0,y1,y2,y3,y4,y5,y6,y7,y8,y9⟩:=ten (jI (o:=(.cells #[.slice none 0 0,.int .i64 0,.int .i8 0] 65)) HBK.out);clear y0 y1 y2 y3 y4 y5 y6 y7 y8 y9) | (go_at_call 61;refine (qG w1.heap.size w1.heap.size _ _ _ HI0.out HK0.out.1.size (by first | omega | (simp only [List.length_append,iM,List.length_nil,jB];omega))).mono ?_;rintro e w2 ⟨rfl,hI,hK⟩;have HI1:=iC.mk hI;have HK1:=iC.mk (HK0.out.trans hK);clear hI hK z0 z1 z2 z3 z4 z5 z6 z7 z8 z9;obtain ⟨z0,z1,z2,z3,z4,z5,z6,z7,z8,z9,y0,y1,y2,y3,y4,y5,y6,y7,y8,y9⟩:=ten (iI HK1.out.1 HBK.out);clear y0 y1 y2 y3 y4 y5 y6 y7 y8 y9) | (go_at_call 62;refine (mG w1.heap.size w1.heap.size _ _ _ HI1.out HK1.out.1.size (by first | omega | (simp only [List.length_append,iM,List.length_nil,jB];omega))).mono ?_;rintro e w3 ⟨rfl,hI,hK⟩;have HI2:=iC.mk hI;have HK2:=iC.mk (HK1.out.trans hK);clear hI hK z0 z1 z2 z3 z4 z5 z6 z7 z8 z9;obtain ⟨z0,z1,z2,z3,z4,z5,z6,z7,z8,z9,y0,y1,y2,y3,y4,y5,y6,y7,y8,y9⟩:=ten (iI HK2.out.1 HBK.out);clear y0 y1 y2 y3 y4 y5 y6 y7 y8 y9) | (go_at_call 62;refine (mG w1.heap.size w1.heap.size _ _ _ HI2.out HK2.out.1.size (by first | omega | (simp only [List.length_append,iM,List.length_nil,jB];omega))).mono ?_;rintro e w4 ⟨rfl,hI,hK⟩;have HI3:=iC.mk hI;have HK3:=iC.mk (HK2.out.trans hK);clear hI hK z0 z1 z2 z3 z4 z5 z6 z7 z8 z9;obtain ⟨z0,z1,z2,z3,z4,z5,z6,z7,z8,z9,y0,y1,y2,y3,y4,y5,y6,y7,y8,y9⟩:=ten (iI HK3.out.1 HBK.out);clear y0 y1 y2 y3 y4 y5 y6 y7 y8 y9) | (go_at_call 63;refine (xX w1.heap.size _ _ _ l3 w1 _ HI3.out HK3.out.1 (Kd.C_below H3.out HBW.out) (by first | omega | (simp only [List.length_append,iM,List.length_nil,jB];omega))).mono ?_;rintro e w5 ⟨rfl,hI,hK⟩;have HI4:=iC.mk hI;have HK4:=iC.mk (HK3.out.trans hK);clear hI hK z0 z1 z2 z3 z4 z5 z6 z7 z8 z9;obtain ⟨z0,z1,z2,z3,z4,z5,z6,z7,z8,z9,y0,y1,y2,y3,y4,y5,y6,y7,y8,y9⟩:=ten (iI HK4.out.1 HBK.out);clear y0 y1 y2 y3 y4 y5 y6 y7 y8 y9) | (go_at_call 26;refine (Tryz.Buffer_Len w1.heap.size w1.heap.size _ _ (HI4.out)).mono ?_;rintro e wl ⟨rfl,nl,rfl⟩;rw [Lib.byteCells_length,← HLEN.out]) | (go_at_call 39;refine (Tryz.Buffer_Bytes w1.heap.size w1.heap.size _ _ (HI4.out.drewN _)).mono ?_;rintro e wb ⟨v,rfl,hv,nb,rfl⟩;have HV:=iC.mk hv;clear hv))
  go_ret2
  exact ⟨_,rfl,by rw [HX.out,ji9];exact rO HV.out HBW.out.size,by have hz:=HBW.out;have hy:=HK4.out.1;exact iF (iH hz hy) _⟩
set_option maxHeartbeats 8000000 in
set_option maxRecDepth 20000 in
theorem jc8 (hs:jR ⟨3,a1,a2,l3,l4,⟨a5,l6⟩,a7,a8,l9⟩=true):Calls Tryz.prog 41 #[.agg #[.int .u8 3,.int .u32 a1,.int .u32 a2,.slice A3 l3.length c3,.slice A4 l4.length c4,.int .u32 a5,.slice A6 l6.length c6,.int .i64 a7,.int .i64 a8,.slice A9 l9.length c9]] w (rE w (encR ⟨3,a1,a2,l3,l4,⟨a5,l6⟩,a7,a8,l9⟩)):=by
 have H3:=iC.mk h3;have H4:=iC.mk h4;have H6:=iC.mk h6;have H9:=iC.mk h9
 clear h3 h4 h6 h9
 have HS:=iC.mk hs
 unfold encR
 rw [if_pos HS.out]
 have hm3:=lD H3.out
 have hm6:=lD H6.out
 obtain ⟨X,hX⟩:∃ X:List UInt8,X=recE ⟨3,a1,a2,l3,l4,⟨a5,l6⟩,a7,a8,l9⟩:=⟨_,rfl⟩
 rw [← hX]
 have HX:=iC.mk hX
 have HLEN:=iC.mk (show X.length=_ from congrArg List.length (hX.trans (jf7 _ _ _ _ _ _ _ _ _)))
 clear hs hX
 by_cases hbig:60000<X.length
 ·rw [if_pos hbig]
  have hbigI:(60000:Int)<(X.length:Int):=by omega
  clear hbig
  go_enter Tryz.func41,Tryz.ntmps41
  go_wp2_with (first | (go_at_call 60;refine (code_Sound.calls 3 a1 a2 A3 c3 l3 A4 c4 l4 a5 A6 c6 l6 a7 a8 A9 c9 l9 _ _ (Kd.C_below H3.out bel_) d3 (Kd.C_below H4.out bel_) d4 (Kd.C_below H6.out bel_) d6 (Kd.C_below H9.out bel_) d9 rfl).mono ?_;rintro e w1 ⟨rfl,hb1⟩;rw [HS.out];have HBW:=iC.mk (show Below w.heap.size w w1 from iH (iD (Below.refl _ _) _) hb1);have HBK:=iC.mk (iI hb1 (iP rfl));clear hb1;have HI0:=iC.mk (Bf.fresh w1);have HK0:=iC.mk ((Kp.refl w1.heap.size w1.heap.size w1).alloc (Nat.le_refl _) (.cells #[.slice none 0 0,.int .i64 0,.int .i8 0] 65));obtain ⟨z0,z1,z2,z3,z4,z5,z6,z7,z8,z9,y0,y1,y2,y3,y4,y5,y6,y7,y8,y9⟩:=ten (jI (o:=(.cells #[.slice none 0 0,.int .i64 0,.int .i8 0] 65)) HBK.out);clear y0 y1 y2 y3 y4 y5 y6 y7 y8 y9) | (go_at_call 61;refine (qG w1.heap.size w1.heap.size _ _ _ HI0.out HK0.out.1.size (by first | omega | (simp only [List.length_append,iM,List.length_nil,jB];omega))).mono ?_;rintro e w2 ⟨rfl,hI,hK⟩;have HI1:=iC.mk hI;have HK1:=iC.mk (HK0.out.trans hK);clear hI hK z0 z1 z2 z3 z4 z5 z6 z7 z8 z9;obtain ⟨z0,z1,z2,z3,z4,z5,z6,z7,z8,z9,y0,y1,y2,y3,y4,y5,y6,y7,y8,y9⟩:=ten (iI HK1.out.1 HBK.out);clear y0 y1 y2 y3 y4 y5 y6 y7 y8 y9) | (go_at_call 62;refine (mG w1.heap.size w1.heap.size _ _ _ HI1.out HK1.out.1.size (by first | omega | (simp only [List.length_append,iM,List.length_nil,jB];omega))).mono ?_;rintro e w3 ⟨rfl,hI,hK⟩;have HI2:=iC.mk hI;have HK2:=iC.mk (HK1.out.trans hK);clear hI hK z0 z1 z2 z3 z4 z5 z6 z7 z8 z9;obtain ⟨z0,z1,z2,z3,z4,z5,z6,z7,z8,z9,y0,y1,y2,y3,y4,y5,y6,y7,y8,y9⟩:=ten (iI HK2.out.1 HBK.out);clear y0 y1 y2 y3 y4 y5 y6 y7 y8 y9) | (go_at_call 26;refine (Tryz.Buffer_Len w1.heap.size w1.heap.size _ _ (HI2.out)).mono ?_;rintro e wl ⟨rfl,nl,rfl⟩;rw [Lib.byteCells_length,← HLEN.out]))
  go_ret2
  exact ⟨_,rfl,Kd.R_nil _ _ _ _ _,by have hz:=HBW.out;have hy:=HK2.out.1;exact iF (iH hz hy) _⟩
 ·rw [if_neg hbig]
  have hbigI:¬ (60000:Int)<(X.length:Int):=by omega
  clear hbig
  go_enter Tryz.func41,Tryz.ntmps41
  go_wp2_with (first | (go_at_call 60;refine (code_Sound.calls 3 a1 a2 A3 c3 l3 A4 c4 l4 a5 A6 c6 l6 a7 a8 A9 c9 l9 _ _ (Kd.C_below H3.out bel_) d3 (Kd.C_below H4.out bel_) d4 (Kd.C_below H6.out bel_) d6 (Kd.C_below H9.out bel_) d9 rfl).mono ?_;rintro e w1 ⟨rfl,hb1⟩;rw [HS.out];have HBW:=iC.mk (show Below w.heap.size w w1 from iH (iD (Below.refl _ _) _) hb1);have HBK:=iC.mk (iI hb1 (iP rfl));clear hb1;have HI0:=iC.mk (Bf.fresh w1);have HK0:=iC.mk ((Kp.refl w1.heap.size w1.heap.size w1).alloc (Nat.le_refl _) (.cells #[.slice none 0 0,.int .i64 0,.int .i8 0] 65));obtain ⟨z0,z1,z2,z3,z4,z5,z6,z7,z8,z9,y0,y1,y2,y3,y4,y5,y6,y7,y8,y9⟩:=ten (jI (o:=(.cells #[.slice none 0 0,.int .i64 0,.int .i8 0] 65)) HBK.out);clear y0 y1 y2 y3 y4 y5 y6 y7 y8 y9) | (go_at_call 61;refine (qG w1.heap.size w1.heap.size _ _ _ HI0.out HK0.out.1.size (by first | omega | (simp only [List.length_append,iM,List.length_nil,jB];omega))).mono ?_;rintro e w2 ⟨rfl,hI,hK⟩;have HI1:=iC.mk hI;have HK1:=iC.mk (HK0.out.trans hK);clear hI hK z0 z1 z2 z3 z4 z5 z6 z7 z8 z9;obtain ⟨z0,z1,z2,z3,z4,z5,z6,z7,z8,z9,y0,y1,y2,y3,y4,y5,y6,y7,y8,y9⟩:=ten (iI HK1.out.1 HBK.out);clear y0 y1 y2 y3 y4 y5 y6 y7 y8 y9) | (go_at_call 62;refine (mG w1.heap.size w1.heap.size _ _ _ HI1.out HK1.out.1.size (by first | omega | (simp only [List.length_append,iM,List.length_nil,jB];omega))).mono ?_;rintro e w3 ⟨rfl,hI,hK⟩;have HI2:=iC.mk hI;have HK2:=iC.mk (HK1.out.trans hK);clear hI hK z0 z1 z2 z3 z4 z5 z6 z7 z8 z9;obtain ⟨z0,z1,z2,z3,z4,z5,z6,z7,z8,z9,y0,y1,y2,y3,y4,y5,y6,y7,y8,y9⟩:=ten (iI HK2.out.1 HBK.out);clear y0 y1 y2 y3 y4 y5 y6 y7 y8 y9) | (go_at_call 26;refine (Tryz.Buffer_Len w1.heap.size w1.heap.size _ _ (HI2.out)).mono ?_;rintro e wl ⟨rfl,nl,rfl⟩;rw [Lib.byteCells_length,← HLEN.out]) | (go_at_call 39;refine (Tryz.Buffer_Bytes w1.heap.size w1.heap.size _ _ (HI2.out.drewN _)).mono ?_;rintro e wb ⟨v,rfl,hv,nb,rfl⟩;have HV:=iC.mk hv;clear hv))
  go_ret2
  exact ⟨_,rfl,by rw [HX.out,jf7];exact rO HV.out HBW.out.size,by have hz:=HBW.out;have hy:=HK2.out.1;exact iF (iH hz hy) _⟩
set_option maxHeartbeats 8000000 in
set_option maxRecDepth 20000 in
theorem ZT (hs:jR ⟨4,a1,a2,l3,l4,⟨a5,l6⟩,a7,a8,l9⟩=true):Calls Tryz.prog 41 #[.agg #[.int .u8 4,.int .u32 a1,.int .u32 a2,.slice A3 l3.length c3,.slice A4 l4.length c4,.int .u32 a5,.slice A6 l6.length c6,.int .i64 a7,.int .i64 a8,.slice A9 l9.length c9]] w (rE w (encR ⟨4,a1,a2,l3,l4,⟨a5,l6⟩,a7,a8,l9⟩)):=by
 have H3:=iC.mk h3;have H4:=iC.mk h4;have H6:=iC.mk h6;have H9:=iC.mk h9
 clear h3 h4 h6 h9
 have HS:=iC.mk hs
 unfold encR
 rw [if_pos HS.out]
 have hm3:=lD H3.out
 have hm6:=lD H6.out
 obtain ⟨X,hX⟩:∃ X:List UInt8,X=recE ⟨4,a1,a2,l3,l4,⟨a5,l6⟩,a7,a8,l9⟩:=⟨_,rfl⟩
 rw [← hX]
 have HX:=iC.mk hX
 have HLEN:=iC.mk (show X.length=_ from congrArg List.length (hX.trans (jg5 _ _ _ _ _ _ _ _ _)))
 clear hs hX
 by_cases hbig:60000<X.length
 ·rw [if_pos hbig]
  have hbigI:(60000:Int)<(X.length:Int):=by omega
  clear hbig
  go_enter Tryz.func41,Tryz.ntmps41
  go_wp2_with (first | (go_at_call 60;refine (code_Sound.calls 4 a1 a2 A3 c3 l3 A4 c4 l4 a5 A6 c6 l6 a7 a8 A9 c9 l9 _ _ (Kd.C_below H3.out bel_) d3 (Kd.C_below H4.out bel_) d4 (Kd.C_below H6.out bel_) d6 (Kd.C_below H9.out bel_) d9 rfl).mono ?_;rintro e w1 ⟨rfl,hb1⟩;rw [HS.out];have HBW:=iC.mk (show Below w.heap.size w w1 from iH (iD (Below.refl _ _) _) hb1);have HBK:=iC.mk (iI hb1 (iP rfl));clear hb1;have HI0:=iC.mk (Bf.fresh w1);have HK0:=iC.mk ((Kp.refl w1.heap.size w1.heap.size w1).alloc (Nat.le_refl _) (.cells #[.slice none 0 0,.int .i64 0,.int .i8 0] 65));obtain ⟨z0,z1,z2,z3,z4,z5,z6,z7,z8,z9,y0,y1,y2,y3,y4,y5,y6,y7,y8,y9⟩:=ten (jI (o:=(.cells #[.slice none 0 0,.int .i64 0,.int .i8 0] 65)) HBK.out);clear y0 y1 y2 y3 y4 y5 y6 y7 y8 y9) | (go_at_call 61;refine (qG w1.heap.size w1.heap.size _ _ _ HI0.out HK0.out.1.size (by first | omega | (simp only [List.length_append,iM,List.length_nil,jB];omega))).mono ?_;rintro e w2 ⟨rfl,hI,hK⟩;have HI1:=iC.mk hI;have HK1:=iC.mk (HK0.out.trans hK);clear hI hK z0 z1 z2 z3 z4 z5 z6 z7 z8 z9;obtain ⟨z0,z1,z2,z3,z4,z5,z6,z7,z8,z9,y0,y1,y2,y3,y4,y5,y6,y7,y8,y9⟩:=ten (iI HK1.out.1 HBK.out);clear y0 y1 y2 y3 y4 y5 y6 y7 y8 y9) | (go_at_call 62;refine (mG w1.heap.size w1.heap.size _ _ _ HI1.out HK1.out.1.size (by first | omega | (simp only [List.length_append,iM,List.length_nil,jB];omega))).mono ?_;rintro e w3 ⟨rfl,hI,hK⟩;have HI2:=iC.mk hI;have HK2:=iC.mk (HK1.out.trans hK);clear hI hK z0 z1 z2 z3 z4 z5 z6 z7 z8 z9;obtain ⟨z0,z1,z2,z3,z4,z5,z6,z7,z8,z9,y0,y1,y2,y3,y4,y5,y6,y7,y8,y9⟩:=ten (iI HK2.out.1 HBK.out);clear y0 y1 y2 y3 y4 y5 y6 y7 y8 y9) | (go_at_call 26;refine (Tryz.Buffer_Len w1.heap.size w1.heap.size _ _ (HI2.out)).mono ?_;rintro e wl ⟨rfl,nl,rfl⟩;rw [Lib.byteCells_length,← HLEN.out]))
  go_ret2
  exact ⟨_,rfl,Kd.R_nil _ _ _ _ _,by have hz:=HBW.out;have hy:=HK2.out.1;exact iF (iH hz hy) _⟩
 ·rw [if_neg hbig]
  have hbigI:¬ (60000:Int)<(X.length:Int):=by omega
  clear hbig
  go_enter Tryz.func41,Tryz.ntmps41
  go_wp2_with (first | (go_at_call 60;refine (code_Sound.calls 4 a1 a2 A3 c3 l3 A4 c4 l4 a5 A6 c6 l6 a7 a8 A9 c9 l9 _ _ (Kd.C_below H3.out bel_) d3 (Kd.C_below H4.out bel_) d4 (Kd.C_below H6.out bel_) d6 (Kd.C_below H9.out bel_) d9 rfl).mono ?_;rintro e w1 ⟨rfl,hb1⟩;rw [HS.out];have HBW:=iC.mk (show Below w.heap.size w w1 from iH (iD (Below.refl _ _) _) hb1);have HBK:=iC.mk (iI hb1 (iP rfl));clear hb1;have HI0:=iC.mk (Bf.fresh w1);have HK0:=iC.mk ((Kp.refl w1.heap.size w1.heap.size w1).alloc (Nat.le_refl _) (.cells #[.slice none 0 0,.int .i64 0,.int .i8 0] 65));obtain ⟨z0,z1,z2,z3,z4,z5,z6,z7,z8,z9,y0,y1,y2,y3,y4,y5,y6,y7,y8,y9⟩:=ten (jI (o:=(.cells #[.slice none 0 0,.int .i64 0,.int .i8 0] 65)) HBK.out);clear y0 y1 y2 y3 y4 y5 y6 y7 y8 y9) | (go_at_call 61;refine (qG w1.heap.size w1.heap.size _ _ _ HI0.out HK0.out.1.size (by first | omega | (simp only [List.length_append,iM,List.length_nil,jB];omega))).mono ?_;rintro e w2 ⟨rfl,hI,hK⟩;have HI1:=iC.mk hI;have HK1:=iC.mk (HK0.out.trans hK);clear hI hK z0 z1 z2 z3 z4 z5 z6 z7 z8 z9;obtain ⟨z0,z1,z2,z3,z4,z5,z6,z7,z8,z9,y0,y1,y2,y3,y4,y5,y6,y7,y8,y9⟩:=ten (iI HK1.out.1 HBK.out);clear y0 y1 y2 y3 y4 y5 y6 y7 y8 y9) | (go_at_call 62;refine (mG w1.heap.size w1.heap.size _ _ _ HI1.out HK1.out.1.size (by first | omega | (simp only [List.length_append,iM,List.length_nil,jB];omega))).mono ?_;rintro e w3 ⟨rfl,hI,hK⟩;have HI2:=iC.mk hI;have HK2:=iC.mk (HK1.out.trans hK);clear hI hK z0 z1 z2 z3 z4 z5 z6 z7 z8 z9;obtain ⟨z0,z1,z2,z3,z4,z5,z6,z7,z8,z9,y0,y1,y2,y3,y4,y5,y6,y7,y8,y9⟩:=ten (iI HK2.out.1 HBK.out);clear y0 y1 y2 y3 y4 y5 y6 y7 y8 y9) | (go_at_call 26;refine (Tryz.Buffer_Len w1.heap.size w1.heap.size _ _ (HI2.out)).mono ?_;rintro e wl ⟨rfl,nl,rfl⟩;rw [Lib.byteCells_length,← HLEN.out]) | (go_at_call 39;refine (Tryz.Buffer_Bytes w1.heap.size w1.heap.size _ _ (HI2.out.drewN _)).mono ?_;rintro e wb ⟨v,rfl,hv,nb,rfl⟩;have HV:=iC.mk hv;clear hv))
  go_ret2
  exact ⟨_,rfl,by rw [HX.out,jg5];exact rO HV.out HBW.out.size,by have hz:=HBW.out;have hy:=HK2.out.1;exact iF (iH hz hy) _⟩
set_option maxHeartbeats 8000000 in
set_option maxRecDepth 20000 in
theorem j04 (hs:jR ⟨5,a1,a2,l3,l4,⟨a5,l6⟩,a7,a8,l9⟩=true):Calls Tryz.prog 41 #[.agg #[.int .u8 5,.int .u32 a1,.int .u32 a2,.slice A3 l3.length c3,.slice A4 l4.length c4,.int .u32 a5,.slice A6 l6.length c6,.int .i64 a7,.int .i64 a8,.slice A9 l9.length c9]] w (rE w (encR ⟨5,a1,a2,l3,l4,⟨a5,l6⟩,a7,a8,l9⟩)):=by
 have H3:=iC.mk h3;have H4:=iC.mk h4;have H6:=iC.mk h6;have H9:=iC.mk h9
 clear h3 h4 h6 h9
 have HS:=iC.mk hs
 unfold encR
 rw [if_pos HS.out]
 have hm3:=lD H3.out
 have hm6:=lD H6.out
 obtain ⟨X,hX⟩:∃ X:List UInt8,X=recE ⟨5,a1,a2,l3,l4,⟨a5,l6⟩,a7,a8,l9⟩:=⟨_,rfl⟩
 rw [← hX]
 have HX:=iC.mk hX
 have HLEN:=iC.mk (show X.length=_ from congrArg List.length (hX.trans (jg8 _ _ _ _ _ _ _ _ _)))
 clear hs hX
 by_cases hbig:60000<X.length
 ·rw [if_pos hbig]
  have hbigI:(60000:Int)<(X.length:Int):=by omega
  clear hbig
  go_enter Tryz.func41,Tryz.ntmps41
  go_wp2_with (first | (go_at_call 60;refine (code_Sound.calls 5 a1 a2 A3 c3 l3 A4 c4 l4 a5 A6 c6 l6 a7 a8 A9 c9 l9 _ _ (Kd.C_below H3.out bel_) d3 (Kd.C_below H4.out bel_) d4 (Kd.C_below H6.out bel_) d6 (Kd.C_below H9.out bel_) d9 rfl).mono ?_;rintro e w1 ⟨rfl,hb1⟩;rw [HS.out];have HBW:=iC.mk (show Below w.heap.size w w1 from iH (iD (Below.refl _ _) _) hb1);have HBK:=iC.mk (iI hb1 (iP rfl));clear hb1;have HI0:=iC.mk (Bf.fresh w1);have HK0:=iC.mk ((Kp.refl w1.heap.size w1.heap.size w1).alloc (Nat.le_refl _) (.cells #[.slice none 0 0,.int .i64 0,.int .i8 0] 65));obtain ⟨z0,z1,z2,z3,z4,z5,z6,z7,z8,z9,y0,y1,y2,y3,y4,y5,y6,y7,y8,y9⟩:=ten (jI (o:=(.cells #[.slice none 0 0,.int .i64 0,.int .i8 0] 65)) HBK.out);clear y0 y1 y2 y3 y4 y5 y6 y7 y8 y9) | (go_at_call 61;refine (qG w1.heap.size w1.heap.size _ _ _ HI0.out HK0.out.1.size (by first | omega | (simp only [List.length_append,iM,List.length_nil,jB];omega))).mono ?_;rintro e w2 ⟨rfl,hI,hK⟩;have HI1:=iC.mk hI;have HK1:=iC.mk (HK0.out.trans hK);clear hI hK z0 z1 z2 z3 z4 z5 z6 z7 z8 z9;obtain ⟨z0,z1,z2,z3,z4,z5,z6,z7,z8,z9,y0,y1,y2,y3,y4,y5,y6,y7,y8,y9⟩:=ten (iI HK1.out.1 HBK.out);clear y0 y1 y2 y3 y4 y5 y6 y7 y8 y9) | (go_at_call 62;refine (mG w1.heap.size w1.heap.size _ _ _ HI1.out HK1.out.1.size (by first | omega | (simp only [List.length_append,iM,List.length_nil,jB];omega))).mono ?_;rintro e w3 ⟨rfl,hI,hK⟩;have HI2:=iC.mk hI;have HK2:=iC.mk (HK1.out.trans hK);clear hI hK z0 z1 z2 z3 z4 z5 z6 z7 z8 z9;obtain ⟨z0,z1,z2,z3,z4,z5,z6,z7,z8,z9,y0,y1,y2,y3,y4,y5,y6,y7,y8,y9⟩:=ten (iI HK2.out.1 HBK.out);clear y0 y1 y2 y3 y4 y5 y6 y7 y8 y9) | (go_at_call 26;refine (Tryz.Buffer_Len w1.heap.size w1.heap.size _ _ (HI2.out)).mono ?_;rintro e wl ⟨rfl,nl,rfl⟩;rw [Lib.byteCells_length,← HLEN.out]))
  go_ret2
  exact ⟨_,rfl,Kd.R_nil _ _ _ _ _,by have hz:=HBW.out;have hy:=HK2.out.1;exact iF (iH hz hy) _⟩
 ·rw [if_neg hbig]
  have hbigI:¬ (60000:Int)<(X.length:Int):=by omega
  clear hbig
  go_enter Tryz.func41,Tryz.ntmps41
  go_wp2_with (first | (go_at_call 60;refine (code_Sound.calls 5 a1 a2 A3 c3 l3 A4 c4 l4 a5 A6 c6 l6 a7 a8 A9 c9 l9 _ _ (Kd.C_below H3.out bel_) d3 (Kd.C_below H4.out bel_) d4 (Kd.C_below H6.out bel_) d6 (Kd.C_below H9.out bel_) d9 rfl).mono ?_;rintro e w1 ⟨rfl,hb1⟩;rw [HS.out];have HBW:=iC.mk (show Below w.heap.size w w1 from iH (iD (Below.refl _ _) _) hb1);have HBK:=iC.mk (iI hb1 (iP rfl));clear hb1;have HI0:=iC.mk (Bf.fresh w1);have HK0:=iC.mk ((Kp.refl w1.heap.size w1.heap.size w1).alloc (Nat.le_refl _) (.cells #[.slice none 0 0,.int .i64 0,.int .i8 0] 65));obtain ⟨z0,z1,z2,z3,z4,z5,z6,z7,z8,z9,y0,y1,y2,y3,y4,y5,y6,y7,y8,y9⟩:=ten (jI (o:=(.cells #[.slice none 0 0,.int .i64 0,.int .i8 0] 65)) HBK.out);clear y0 y1 y2 y3 y4 y5 y6 y7 y8 y9) | (go_at_call 61;refine (qG w1.heap.size w1.heap.size _ _ _ HI0.out HK0.out.1.size (by first | omega | (simp only [List.length_append,iM,List.length_nil,jB];omega))).mono ?_;rintro e w2 ⟨rfl,hI,hK⟩;have HI1:=iC.mk hI;have HK1:=iC.mk (HK0.out.trans hK);clear hI hK z0 z1 z2 z3 z4 z5 z6 z7 z8 z9;obtain ⟨z0,z1,z2,z3,z4,z5,z6,z7,z8,z9,y0,y1,y2,y3,y4,y5,y6,y7,y8,y9⟩:=ten (iI HK1.out.1 HBK.out);clear y0 y1 y2 y3 y4 y5 y6 y7 y8 y9) | (go_at_call 62;refine (mG w1.heap.size w1.heap.size _ _ _ HI1.out HK1.out.1.size (by first | omega | (simp only [List.length_append,iM,List.length_nil,jB];omega))).mono ?_;rintro e w3 ⟨rfl,hI,hK⟩;have HI2:=iC.mk hI;have HK2:=iC.mk (HK1.out.trans hK);clear hI hK z0 z1 z2 z3 z4 z5 z6 z7 z8 z9;obtain ⟨z0,z1,z2,z3,z4,z5,z6,z7,z8,z9,y0,y1,y2,y3,y4,y5,y6,y7,y8,y9⟩:=ten (iI HK2.out.1 HBK.out);clear y0 y1 y2 y3 y4 y5 y6 y7 y8 y9) | (go_at_call 26;refine (Tryz.Buffer_Len w1.heap.size w1.heap.size _ _ (HI2.out)).mono ?_;rintro e wl ⟨rfl,nl,rfl⟩;rw [Lib.byteCells_length,← HLEN.out]) | (go_at_call 39;refine (Tryz.Buffer_Bytes w1.heap.size w1.heap.size _ _ (HI2.out.drewN _)).mono ?_;rintro e wb ⟨v,rfl,hv,nb,rfl⟩;have HV:=iC.mk hv;clear hv))
  go_ret2
  exact ⟨_,rfl,by rw [HX.out,jg8];exact rO HV.out HBW.out.size,by have hz:=HBW.out;have hy:=HK2.out.1;exact iF (iH hz hy) _⟩
set_option maxHeartbeats 8000000 in
set_option maxRecDepth 20000 in
theorem j03 (hs:jR ⟨7,a1,a2,l3,l4,⟨a5,l6⟩,a7,a8,l9⟩=true):Calls Tryz.prog 41 #[.agg #[.int .u8 7,.int .u32 a1,.int .u32 a2,.slice A3 l3.length c3,.slice A4 l4.length c4,.int .u32 a5,.slice A6 l6.length c6,.int .i64 a7,.int .i64 a8,.slice A9 l9.length c9]] w (rE w (encR ⟨7,a1,a2,l3,l4,⟨a5,l6⟩,a7,a8,l9⟩)):=by
 have H3:=iC.mk h3;have H4:=iC.mk h4;have H6:=iC.mk h6;have H9:=iC.mk h9
 clear h3 h4 h6 h9
 have HS:=iC.mk hs
 have q9:(jZ l9).length≤25040004:=by
  have h:=HS.out
  rw [Z4,Bool.and_eq_true,Bool.and_eq_true,Bool.and_eq_true,Bool.and_eq_true,Bool.and_eq_true,Bool.and_eq_true] at h
  exact vX _ h.1.1.1.1.1.1 (by have:=of_decide_eq_true h.1.1.1.1.1.2;omega)
 unfold encR
 rw [if_pos HS.out]
 have hm3:=lD H3.out
 have hm6:=lD H6.out
 obtain ⟨X,hX⟩:∃ X:List UInt8,X=recE ⟨7,a1,a2,l3,l4,⟨a5,l6⟩,a7,a8,l9⟩:=⟨_,rfl⟩
 rw [← hX]
 have HX:=iC.mk hX
 have HLEN:=iC.mk (show X.length=_ from congrArg List.length (hX.trans (jk3 _ _ _ _ _ _ _ _ _)))
 clear hs hX
 by_cases hbig:60000<X.length
 ·rw [if_pos hbig]
  have hbigI:(60000:Int)<(X.length:Int):=by omega
  clear hbig
  go_enter Tryz.func41,Tryz.ntmps41
  go_wp2_with (first | (go_at_call 60;refine (code_Sound.calls 7 a1 a2 A3 c3 l3 A4 c4 l4 a5 A6 c6 l6 a7 a8 A9 c9 l9 _ _ (Kd.C_below H3.out bel_) d3 (Kd.C_below H4.out bel_) d4 (Kd.C_below H6.out bel_) d6 (Kd.C_below H9.out bel_) d9 rfl).mono ?_;rintro e w1 ⟨rfl,hb1⟩;rw [HS.out];have HBW:=iC.mk (show Below w.heap.size w w1 from iH (iD (Below.refl _ _) _) hb1);have HBK:=iC.mk (iI hb1 (iP rfl));clear hb1;have HI0:=iC.mk (Bf.fresh w1);have HK0:=iC.mk ((Kp.refl w1.heap.size w1.heap.size w1).alloc (Nat.le_refl _) (.cells #[.slice none 0 0,.int .i64 0,.int .i8 0] 65));obtain ⟨z0,z1,z2,z3,z4,z5,z6,z7,z8,z9,y0,y1,y2,y3,y4,y5,y6,y7,y8,y9⟩:=ten (jI (o:=(.cells #[.slice none 0 0,.int .i64 0,.int .i8 0] 65)) HBK.out);clear y0 y1 y2 y3 y4 y5 y6 y7 y8 y9) | (go_at_call 61;refine (qG w1.heap.size w1.heap.size _ _ _ HI0.out HK0.out.1.size (by first | omega | (simp only [List.length_append,iM,List.length_nil,jB];omega))).mono ?_;rintro e w2 ⟨rfl,hI,hK⟩;have HI1:=iC.mk hI;have HK1:=iC.mk (HK0.out.trans hK);clear hI hK z0 z1 z2 z3 z4 z5 z6 z7 z8 z9;obtain ⟨z0,z1,z2,z3,z4,z5,z6,z7,z8,z9,y0,y1,y2,y3,y4,y5,y6,y7,y8,y9⟩:=ten (iI HK1.out.1 HBK.out);clear y0 y1 y2 y3 y4 y5 y6 y7 y8 y9) | (go_at_call 62;refine (mG w1.heap.size w1.heap.size _ _ _ HI1.out HK1.out.1.size (by first | omega | (simp only [List.length_append,iM,List.length_nil,jB];omega))).mono ?_;rintro e w3 ⟨rfl,hI,hK⟩;have HI2:=iC.mk hI;have HK2:=iC.mk (HK1.out.trans hK);clear hI hK z0 z1 z2 z3 z4 z5 z6 z7 z8 z9;obtain ⟨z0,z1,z2,z3,z4,z5,z6,z7,z8,z9,y0,y1,y2,y3,y4,y5,y6,y7,y8,y9⟩:=ten (iI HK2.out.1 HBK.out);clear y0 y1 y2 y3 y4 y5 y6 y7 y8 y9) | (go_at_call 65;refine (pO w1.heap.size w1.heap.size _ _ _ HI2.out HK2.out.1.size (by first | omega | (simp only [List.length_append,iM,List.length_nil,jB];omega))).mono ?_;rintro e w4 ⟨rfl,hI,hK⟩;have HI3:=iC.mk hI;have HK3:=iC.mk (HK2.out.trans hK);clear hI hK z0 z1 z2 z3 z4 z5 z6 z7 z8 z9;obtain ⟨z0,z1,z2,z3,z4,z5,z6,z7,z8,z9,y0,y1,y2,y3,y4,y5,y6,y7,y8,y9⟩:=ten (iI HK3.out.1 HBK.out);clear y0 y1 y2 y3 y4 y5 y6 y7 y8 y9) | (go_at_call 65;refine (pO w1.heap.size w1.heap.size _ _ _ HI3.out HK3.out.1.size (by first | omega | (simp only [List.length_append,iM,List.length_nil,jB];omega))).mono ?_;rintro e w5 ⟨rfl,hI,hK⟩;have HI4:=iC.mk hI;have HK4:=iC.mk (HK3.out.trans hK);clear hI hK z0 z1 z2 z3 z4 z5 z6 z7 z8 z9;obtain ⟨z0,z1,z2,z3,z4,z5,z6,z7,z8,z9,y0,y1,y2,y3,y4,y5,y6,y7,y8,y9⟩:=ten (iI HK4.out.1 HBK.out);clear y0 y1 y2 y3 y4 y5 y6 y7 y8 y9) | (go_at_call 66;refine (IK w1.heap.size _ _ _ l9 w1 _ HI4.out HK4.out.1 (Kd.C_below H9.out HBW.out) (by first | omega | (simp only [List.length_append,iM,List.length_nil,jB];omega))).mono ?_;rintro e w6 ⟨rfl,hI,hK⟩;have HI5:=iC.mk hI;have HK5:=iC.mk (HK4.out.trans hK);clear hI hK z0 z1 z2 z3 z4 z5 z6 z7 z8 z9;obtain ⟨z0,z1,z2,z3,z4,z5,z6,z7,z8,z9,y0,y1,y2,y3,y4,y5,y6,y7,y8,y9⟩:=ten (iI HK5.out.1 HBK.out);clear y0 y1 y2 y3 y4 y5 y6 y7 y8 y9) | (go_at_call 26;refine (Tryz.Buffer_Len w1.heap.size w1.heap.size _ _ (HI5.out)).mono ?_;rintro e wl ⟨rfl,nl,rfl⟩;rw [Lib.byteCells_length,← HLEN.out]))
  go_ret2
  exact ⟨_,rfl,Kd.R_nil _ _ _ _ _,by have hz:=HBW.out;have hy:=HK5.out.1;exact iF (iH hz hy) _⟩
 ·rw [if_neg hbig]
  have hbigI:¬ (60000:Int)<(X.length:Int):=by omega
  clear hbig
  go_enter Tryz.func41,Tryz.ntmps41
  go_wp2_with (first | (go_at_call 60;refine (code_Sound.calls 7 a1 a2 A3 c3 l3 A4 c4 l4 a5 A6 c6 l6 a7 a8 A9 c9 l9 _ _ (Kd.C_below H3.out bel_) d3 (Kd.C_below H4.out bel_) d4 (Kd.C_below H6.out bel_) d6 (Kd.C_below H9.out bel_) d9 rfl).mono ?_;rintro e w1 ⟨rfl,hb1⟩;rw [HS.out];have HBW:=iC.mk (show Below w.heap.size w w1 from iH (iD (Below.refl _ _) _) hb1);have HBK:=iC.mk (iI hb1 (iP rfl));clear hb1;have HI0:=iC.mk (Bf.fresh w1);have HK0:=iC.mk ((Kp.refl w1.heap.size w1.heap.size w1).alloc (Nat.le_refl _) (.cells #[.slice none 0 0,.int .i64 0,.int .i8 0] 65));obtain ⟨z0,z1,z2,z3,z4,z5,z6,z7,z8,z9,y0,y1,y2,y3,y4,y5,y6,y7,y8,y9⟩:=ten (jI (o:=(.cells #[.slice none 0 0,.int .i64 0,.int .i8 0] 65)) HBK.out);clear y0 y1 y2 y3 y4 y5 y6 y7 y8 y9) | (go_at_call 61;refine (qG w1.heap.size w1.heap.size _ _ _ HI0.out HK0.out.1.size (by first | omega | (simp only [List.length_append,iM,List.length_nil,jB];omega))).mono ?_;rintro e w2 ⟨rfl,hI,hK⟩;have HI1:=iC.mk hI;have HK1:=iC.mk (HK0.out.trans hK);clear hI hK z0 z1 z2 z3 z4 z5 z6 z7 z8 z9;obtain ⟨z0,z1,z2,z3,z4,z5,z6,z7,z8,z9,y0,y1,y2,y3,y4,y5,y6,y7,y8,y9⟩:=ten (iI HK1.out.1 HBK.out);clear y0 y1 y2 y3 y4 y5 y6 y7 y8 y9) | (go_at_call 62;refine (mG w1.heap.size w1.heap.size _ _ _ HI1.out HK1.out.1.size (by first | omega | (simp only [List.length_append,iM,List.length_nil,jB];omega))).mono ?_;rintro e w3 ⟨rfl,hI,hK⟩;have HI2:=iC.mk hI;have HK2:=iC.mk (HK1.out.trans hK);clear hI hK z0 z1 z2 z3 z4 z5 z6 z7 z8 z9;obtain ⟨z0,z1,z2,z3,z4,z5,z6,z7,z8,z9,y0,y1,y2,y3,y4,y5,y6,y7,y8,y9⟩:=ten (iI HK2.out.1 HBK.out);clear y0 y1 y2 y3 y4 y5 y6 y7 y8 y9) | (go_at_call 65;refine (pO w1.heap.size w1.heap.size _ _ _ HI2.out HK2.out.1.size (by first | omega | (simp only [List.length_append,iM,List.length_nil,jB];omega))).mono ?_;rintro e w4 ⟨rfl,hI,hK⟩;have HI3:=iC.mk hI;have HK3:=iC.mk (HK2.out.trans hK);clear hI hK z0 z1 z2 z3 z4 z5 z6 z7 z8 z9;obtain ⟨z0,z1,z2,z3,z4,z5,z6,z7,z8,z9,y0,y1,y2,y3,y4,y5,y6,y7,y8,y9⟩:=ten (iI HK3.out.1 HBK.out);clear y0 y1 y2 y3 y4 y5 y6 y7 y8 y9) | (go_at_call 65;refine (pO w1.heap.size w1.heap.size _ _ _ HI3.out HK3.out.1.size (by first | omega | (simp only [List.length_append,iM,List.length_nil,jB];omega))).mono ?_;rintro e w5 ⟨rfl,hI,hK⟩;have HI4:=iC.mk hI;have HK4:=iC.mk (HK3.out.trans hK);clear hI hK z0 z1 z2 z3 z4 z5 z6 z7 z8 z9;obtain ⟨z0,z1,z2,z3,z4,z5,z6,z7,z8,z9,y0,y1,y2,y3,y4,y5,y6,y7,y8,y9⟩:=ten (iI HK4.out.1 HBK.out);clear y0 y1 y2 y3 y4 y5 y6 y7 y8 y9) | (go_at_call 66;refine (IK w1.heap.size _ _ _ l9 w1 _ HI4.out HK4.out.1 (Kd.C_below H9.out HBW.out) (by first | omega | (simp only [List.length_append,iM,List.length_nil,jB];omega))).mono ?_;rintro e w6 ⟨rfl,hI,hK⟩;have HI5:=iC.mk hI;have HK5:=iC.mk (HK4.out.trans hK);clear hI hK z0 z1 z2 z3 z4 z5 z6 z7 z8 z9;obtain ⟨z0,z1,z2,z3,z4,z5,z6,z7,z8,z9,y0,y1,y2,y3,y4,y5,y6,y7,y8,y9⟩:=ten (iI HK5.out.1 HBK.out);clear y0 y1 y2 y3 y4 y5 y6 y7 y8 y9) | (go_at_call 26;refine (Tryz.Buffer_Len w1.heap.size w1.heap.size _ _ (HI5.out)).mono ?_;rintro e wl ⟨rfl,nl,rfl⟩;rw [Lib.byteCells_length,← HLEN.out]) | (go_at_call 39;refine (Tryz.Buffer_Bytes w1.heap.size w1.heap.size _ _ (HI5.out.drewN _)).mono ?_;rintro e wb ⟨v,rfl,hv,nb,rfl⟩;have HV:=iC.mk hv;clear hv))
  go_ret2
  exact ⟨_,rfl,by rw [HX.out,jk3];exact rO HV.out HBW.out.size,by have hz:=HBW.out;have hy:=HK5.out.1;exact iF (iH hz hy) _⟩
set_option maxHeartbeats 8000000 in
set_option maxRecDepth 20000 in
theorem jd6 (hs:jR ⟨6,a1,a2,l3,l4,⟨a5,l6⟩,a7,a8,l9⟩=true):Calls Tryz.prog 41 #[.agg #[.int .u8 6,.int .u32 a1,.int .u32 a2,.slice A3 l3.length c3,.slice A4 l4.length c4,.int .u32 a5,.slice A6 l6.length c6,.int .i64 a7,.int .i64 a8,.slice A9 l9.length c9]] w (rE w (encR ⟨6,a1,a2,l3,l4,⟨a5,l6⟩,a7,a8,l9⟩)):=by
 have H3:=iC.mk h3;have H4:=iC.mk h4;have H6:=iC.mk h6;have H9:=iC.mk h9
 clear h3 h4 h6 h9
 have HS:=iC.mk hs
 have q6:l6.length≤40:=by
  have h:=HS.out
  rw [X7,Bool.and_eq_true,Bool.and_eq_true,Bool.and_eq_true] at h
  have:=of_decide_eq_true h.1.1.2
  omega
 unfold encR
 rw [if_pos HS.out]
 have hm3:=lD H3.out
 have hm6:=lD H6.out
 obtain ⟨X,hX⟩:∃ X:List UInt8,X=recE ⟨6,a1,a2,l3,l4,⟨a5,l6⟩,a7,a8,l9⟩:=⟨_,rfl⟩
 rw [← hX]
 have HX:=iC.mk hX
 have HLEN:=iC.mk (show X.length=_ from congrArg List.length (hX.trans (jh3 _ _ _ _ _ _ _ _ _)))
 clear hs hX
 by_cases hbig:60000<X.length
 ·rw [if_pos hbig]
  have hbigI:(60000:Int)<(X.length:Int):=by omega
  clear hbig
  go_enter Tryz.func41,Tryz.ntmps41
  go_wp2_with (first | (go_at_call 60;refine (code_Sound.calls 6 a1 a2 A3 c3 l3 A4 c4 l4 a5 A6 c6 l6 a7 a8 A9 c9 l9 _ _ (Kd.C_below H3.out bel_) d3 (Kd.C_below H4.out bel_) d4 (Kd.C_below H6.out bel_) d6 (Kd.C_below H9.out bel_) d9 rfl).mono ?_;rintro e w1 ⟨rfl,hb1⟩;rw [HS.out];have HBW:=iC.mk (show Below w.heap.size w w1 from iH (iD (Below.refl _ _) _) hb1);have HBK:=iC.mk (iI hb1 (iP rfl));clear hb1;have HI0:=iC.mk (Bf.fresh w1);have HK0:=iC.mk ((Kp.refl w1.heap.size w1.heap.size w1).alloc (Nat.le_refl _) (.cells #[.slice none 0 0,.int .i64 0,.int .i8 0] 65));obtain ⟨z0,z1,z2,z3,z4,z5,z6,z7,z8,z9,y0,y1,y2,y3,y4,y5,y6,y7,y8,y9⟩:=ten (jI (o:=(.cells #[.slice none 0 0,.int .i64 0,.int .i8 0] 65)) HBK.out);clear y0 y1 y2 y3 y4 y5 y6 y7 y8 y9) | (go_at_call 61;refine (qG w1.heap.size w1.heap.size _ _ _ HI0.out HK0.out.1.size (by first | omega | (simp only [List.length_append,iM,List.length_nil,jB];omega))).mono ?_;rintro e w2 ⟨rfl,hI,hK⟩;have HI1:=iC.mk hI;have HK1:=iC.mk (HK0.out.trans hK);clear hI hK z0 z1 z2 z3 z4 z5 z6 z7 z8 z9;obtain ⟨z0,z1,z2,z3,z4,z5,z6,z7,z8,z9,y0,y1,y2,y3,y4,y5,y6,y7,y8,y9⟩:=ten (iI HK1.out.1 HBK.out);clear y0 y1 y2 y3 y4 y5 y6 y7 y8 y9) | (go_at_call 62;refine (mG w1.heap.size w1.heap.size _ _ _ HI1.out HK1.out.1.size (by first | omega | (simp only [List.length_append,iM,List.length_nil,jB];omega))).mono ?_;rintro e w3 ⟨rfl,hI,hK⟩;have HI2:=iC.mk hI;have HK2:=iC.mk (HK1.out.trans hK);clear hI hK z0 z1 z2 z3 z4 z5 z6 z7 z8 z9;obtain ⟨z0,z1,z2,z3,z4,z5,z6,z7,z8,z9,y0,y1,y2,y3,y4,y5,y6,y7,y8,y9⟩:=ten (iI HK2.out.1 HBK.out);clear y0 y1 y2 y3 y4 y5 y6 y7 y8 y9) | (go_at_call 62;refine (mG w1.heap.size w1.heap.size _ _ _ HI2.out HK2.out.1.size (by first | omega | (simp only [List.length_append,iM,List.length_nil,jB];omega))).mono ?_;rintro e w4 ⟨rfl,hI,hK⟩;have HI3:=iC.mk hI;have HK3:=iC.mk (HK2.out.trans hK);clear hI hK z0 z1 z2 z3 z4 z5 z6 z7 z8 z9;obtain ⟨z0,z1,z2,z3,z4,z5,z6,z7,z8,z9,y0,y1,y2,y3,y4,y5,y6,y7,y8,y9⟩:=ten (iI HK3.out.1 HBK.out);clear y0 y1 y2 y3 y4 y5 y6 y7 y8 y9) | (go_at_call 65;refine (rM w1.heap.size w1.heap.size _ _ _ HI3.out HK3.out.1.size (by first | omega | (simp only [List.length_append,iM,List.length_nil,jB];omega))).mono ?_;rintro e w5 ⟨rfl,hI,hK⟩;have HI4:=iC.mk hI;have HK4:=iC.mk (HK3.out.trans hK);clear hI hK z0 z1 z2 z3 z4 z5 z6 z7 z8 z9;obtain ⟨z0,z1,z2,z3,z4,z5,z6,z7,z8,z9,y0,y1,y2,y3,y4,y5,y6,y7,y8,y9⟩:=ten (iI HK4.out.1 HBK.out);clear y0 y1 y2 y3 y4 y5 y6 y7 y8 y9))
  clear z0 z1 z2 z3 z4 z5 z6 z7 z8 z9
  go_loopw [59] (fun i wr=>∃ k:Nat,k≤l6.length∧i=.int .i64 k∧iC (Bf w1.heap.size w1.heap.size ([] ++ layB 6 1 ++ layB a1 4 ++ layB a5 4 ++ layB l6.length 1 ++ (l6.take k).flatMap oH) wr)∧iC (Kp w1.heap.size w1.heap.size w1 wr)) (fun i _=>l6.length - (intOf i).toNat)
  case atStart=>exact ⟨0,Nat.zero_le _,rfl,⟨by rw [List.take_zero,List.flatMap_nil,List.append_nil];exact HI4.out⟩,HK4⟩
  case round =>
   obtain ⟨k,hk,rfl,HI,HK⟩:=hrel
   clear HI4 HK4 HI3 HK3 HI2 HK2 HI1 HK1 HI0 HK0
   by_cases hlt:k<l6.length
   ·obtain ⟨ad,rfl,hx0,hx1⟩:=lQ (Kd.C_below H6.out (iH HBW.out HK.out.1)) (k:Int) (by omega) (by omega)
    rw [Y3] at hx0 hx1
    rw [Int.toNat_natCast] at hx0 hx1
    have hts:=iC.mk (kV oH I5 l6 k hlt)
    have hpl:([] ++ layB 6 1 ++ layB a1 4 ++ layB a5 4 ++ layB l6.length 1 ++ (l6.take k).flatMap oH).length+10≤140737488355328:=by
     simp only [List.length_append,iM,List.length_nil,yO,List.length_take]
     omega
    obtain ⟨s,hs⟩:∃ s,s=l6.getD k I5:=⟨_,rfl⟩
    rw [← hs] at hx0 hx1 hts
    clear hs
    obtain ⟨pre,hpre⟩:∃ p,p=[] ++ layB 6 1 ++ layB a1 4 ++ layB a5 4 ++ layB l6.length 1 ++ (l6.take k).flatMap oH:=⟨_,rfl⟩
    have hrest:[] ++ layB 6 1 ++ layB a1 4 ++ layB a5 4 ++ layB l6.length 1 ++ (l6.take (k+1)).flatMap oH=pre ++ oH s:=by rw [hts.out,← List.append_assoc,hpre]
    have HREST:=iC.mk hrest
    rw [← hpre] at HI hpl
    have HPL:=iC.mk (show (pre ++ layB s.f0 4).length+1≤140737488355328 from by rw [List.length_append,iM];omega)
    have HPL4:=iC.mk (show pre.length+4≤140737488355328 from by omega)
    clear hpre hrest hts hpl
    obtain ⟨wo,rfl⟩:∃ wo:World,wo=wr:=⟨_,rfl⟩
    have HBX:=iC.mk (Bf.alloc HI.out (.cells #[.int .i64 s.f0,.int .i64 s.f1] 122))
    have HKX:=iC.mk (HK.out.alloc HK.out.1.size (.cells #[.int .i64 s.f0,.int .i64 s.f1] 122))
    have HNE:=iC.mk (show wo.heap.size≠w1.heap.size from by have:=HI.out.lt;omega)
    go_wp2_with fail
    refine (pO _ _ pre _ _ HBX.out HKX.out.1.size HPL4.out).mono ?_
    rintro e w2 ⟨rfl,hI,hK⟩
    have HI1:=iC.mk hI
    have HK1:=iC.mk (HKX.out.trans hK)
    have hblk:=hK.block (iP rfl) HNE.out (by decide)
    clear hI hK
    have hz1:w2.cell? ⟨wo.heap.size,1,none⟩=some (.int .i64 s.f1):=(iG hblk 1).trans rfl
    clear hblk
    go_wp2_with fail
    refine (rM _ _ _ _ _ HI1.out HK1.out.1.size HPL.out).mono ?_
    rintro e w3 ⟨rfl,hI,hK⟩
    have HI2:=iC.mk hI
    have HK2:=iC.mk (HK1.out.trans hK)
    clear hI hK
    go_wp2
    go_roundw
    case rel=>exact ⟨k+1,by omega,by go_num,⟨by rw [HREST.out,oH,← List.append_assoc];exact HI2.out⟩,HK2⟩
    case measure=>simp [intOf];omega
   ·skip
    obtain rfl:k=l6.length:=by omega
    have hI':=HI.out
    rw [List.take_length] at hI'
    have HI':=iC.mk hI'
    clear hI'
    go_wp2_with (first | (go_at_call 26;refine (Tryz.Buffer_Len w1.heap.size w1.heap.size _ _ (HI'.out)).mono ?_;rintro e wl ⟨rfl,nl,rfl⟩;rw [Lib.byteCells_length,← HLEN.out]))
    go_ret2
    exact ⟨_,rfl,Kd.R_nil _ _ _ _ _,by have hz:=HBW.out;have hy:=HK.out.1;exact iF (iH hz hy) _⟩
 ·rw [if_neg hbig]
  have hbigI:¬ (60000:Int)<(X.length:Int):=by omega
  clear hbig
  go_enter Tryz.func41,Tryz.ntmps41
  go_wp2_with (first | (go_at_call 60;refine (code_Sound.calls 6 a1 a2 A3 c3 l3 A4 c4 l4 a5 A6 c6 l6 a7 a8 A9 c9 l9 _ _ (Kd.C_below H3.out bel_) d3 (Kd.C_below H4.out bel_) d4 (Kd.C_below H6.out bel_) d6 (Kd.C_below H9.out bel_) d9 rfl).mono ?_;rintro e w1 ⟨rfl,hb1⟩;rw [HS.out];have HBW:=iC.mk (show Below w.heap.size w w1 from iH (iD (Below.refl _ _) _) hb1);have HBK:=iC.mk (iI hb1 (iP rfl));clear hb1;have HI0:=iC.mk (Bf.fresh w1);have HK0:=iC.mk ((Kp.refl w1.heap.size w1.heap.size w1).alloc (Nat.le_refl _) (.cells #[.slice none 0 0,.int .i64 0,.int .i8 0] 65));obtain ⟨z0,z1,z2,z3,z4,z5,z6,z7,z8,z9,y0,y1,y2,y3,y4,y5,y6,y7,y8,y9⟩:=ten (jI (o:=(.cells #[.slice none 0 0,.int .i64 0,.int .i8 0] 65)) HBK.out);clear y0 y1 y2 y3 y4 y5 y6 y7 y8 y9) | (go_at_call 61;refine (qG w1.heap.size w1.heap.size _ _ _ HI0.out HK0.out.1.size (by first | omega | (simp only [List.length_append,iM,List.length_nil,jB];omega))).mono ?_;rintro e w2 ⟨rfl,hI,hK⟩;have HI1:=iC.mk hI;have HK1:=iC.mk (HK0.out.trans hK);clear hI hK z0 z1 z2 z3 z4 z5 z6 z7 z8 z9;obtain ⟨z0,z1,z2,z3,z4,z5,z6,z7,z8,z9,y0,y1,y2,y3,y4,y5,y6,y7,y8,y9⟩:=ten (iI HK1.out.1 HBK.out);clear y0 y1 y2 y3 y4 y5 y6 y7 y8 y9) | (go_at_call 62;refine (mG w1.heap.size w1.heap.size _ _ _ HI1.out HK1.out.1.size (by first | omega | (simp only [List.length_append,iM,List.length_nil,jB];omega))).mono ?_;rintro e w3 ⟨rfl,hI,hK⟩;have HI2:=iC.mk hI;have HK2:=iC.mk (HK1.out.trans hK);clear hI hK z0 z1 z2 z3 z4 z5 z6 z7 z8 z9;obtain ⟨z0,z1,z2,z3,z4,z5,z6,z7,z8,z9,y0,y1,y2,y3,y4,y5,y6,y7,y8,y9⟩:=ten (iI HK2.out.1 HBK.out);clear y0 y1 y2 y3 y4 y5 y6 y7 y8 y9) | (go_at_call 62;refine (mG w1.heap.size w1.heap.size _ _ _ HI2.out HK2.out.1.size (by first | omega | (simp only [List.length_append,iM,List.length_nil,jB];omega))).mono ?_;rintro e w4 ⟨rfl,hI,hK⟩;have HI3:=iC.mk hI;have HK3:=iC.mk (HK2.out.trans hK);clear hI hK z0 z1 z2 z3 z4 z5 z6 z7 z8 z9;obtain ⟨z0,z1,z2,z3,z4,z5,z6,z7,z8,z9,y0,y1,y2,y3,y4,y5,y6,y7,y8,y9⟩:=ten (iI HK3.out.1 HBK.out);clear y0 y1 y2 y3 y4 y5 y6 y7 y8 y9) | (go_at_call 65;refine (rM w1.heap.size w1.heap.size _ _ _ HI3.out HK3.out.1.size (by first | omega | (simp only [List.length_append,iM,List.length_nil,jB];omega))).mono ?_;rintro e w5 ⟨rfl,hI,hK⟩;have HI4:=iC.mk hI;have HK4:=iC.mk (HK3.out.trans hK);clear hI hK z0 z1 z2 z3 z4 z5 z6 z7 z8 z9;obtain ⟨z0,z1,z2,z3,z4,z5,z6,z7,z8,z9,y0,y1,y2,y3,y4,y5,y6,y7,y8,y9⟩:=ten (iI HK4.out.1 HBK.out);clear y0 y1 y2 y3 y4 y5 y6 y7 y8 y9))
  clear z0 z1 z2 z3 z4 z5 z6 z7 z8 z9
  go_loopw [59] (fun i wr=>∃ k:Nat,k≤l6.length∧i=.int .i64 k∧iC (Bf w1.heap.size w1.heap.size ([] ++ layB 6 1 ++ layB a1 4 ++ layB a5 4 ++ layB l6.length 1 ++ (l6.take k).flatMap oH) wr)∧iC (Kp w1.heap.size w1.heap.size w1 wr)) (fun i _=>l6.length - (intOf i).toNat)
  case atStart=>exact ⟨0,Nat.zero_le _,rfl,⟨by rw [List.take_zero,List.flatMap_nil,List.append_nil];exact HI4.out⟩,HK4⟩
  case round =>
   obtain ⟨k,hk,rfl,HI,HK⟩:=hrel
   clear HI4 HK4 HI3 HK3 HI2 HK2 HI1 HK1 HI0 HK0
   by_cases hlt:k<l6.length
   ·obtain ⟨ad,rfl,hx0,hx1⟩:=lQ (Kd.C_below H6.out (iH HBW.out HK.out.1)) (k:Int) (by omega) (by omega)
    rw [Y3] at hx0 hx1
    rw [Int.toNat_natCast] at hx0 hx1
    have hts:=iC.mk (kV oH I5 l6 k hlt)
    have hpl:([] ++ layB 6 1 ++ layB a1 4 ++ layB a5 4 ++ layB l6.length 1 ++ (l6.take k).flatMap oH).length+10≤140737488355328:=by
     simp only [List.length_append,iM,List.length_nil,yO,List.length_take]
     omega
    obtain ⟨s,hs⟩:∃ s,s=l6.getD k I5:=⟨_,rfl⟩
    rw [← hs] at hx0 hx1 hts
    clear hs
    obtain ⟨pre,hpre⟩:∃ p,p=[] ++ layB 6 1 ++ layB a1 4 ++ layB a5 4 ++ layB l6.length 1 ++ (l6.take k).flatMap oH:=⟨_,rfl⟩
    have hrest:[] ++ layB 6 1 ++ layB a1 4 ++ layB a5 4 ++ layB l6.length 1 ++ (l6.take (k+1)).flatMap oH=pre ++ oH s:=by rw [hts.out,← List.append_assoc,hpre]
    have HREST:=iC.mk hrest
    rw [← hpre] at HI hpl
    have HPL:=iC.mk (show (pre ++ layB s.f0 4).length+1≤140737488355328 from by rw [List.length_append,iM];omega)
    have HPL4:=iC.mk (show pre.length+4≤140737488355328 from by omega)
    clear hpre hrest hts hpl
    obtain ⟨wo,rfl⟩:∃ wo:World,wo=wr:=⟨_,rfl⟩
    have HBX:=iC.mk (Bf.alloc HI.out (.cells #[.int .i64 s.f0,.int .i64 s.f1] 122))
    have HKX:=iC.mk (HK.out.alloc HK.out.1.size (.cells #[.int .i64 s.f0,.int .i64 s.f1] 122))
    have HNE:=iC.mk (show wo.heap.size≠w1.heap.size from by have:=HI.out.lt;omega)
    go_wp2_with fail
    refine (pO _ _ pre _ _ HBX.out HKX.out.1.size HPL4.out).mono ?_
    rintro e w2 ⟨rfl,hI,hK⟩
    have HI1:=iC.mk hI
    have HK1:=iC.mk (HKX.out.trans hK)
    have hblk:=hK.block (iP rfl) HNE.out (by decide)
    clear hI hK
    have hz1:w2.cell? ⟨wo.heap.size,1,none⟩=some (.int .i64 s.f1):=(iG hblk 1).trans rfl
    clear hblk
    go_wp2_with fail
    refine (rM _ _ _ _ _ HI1.out HK1.out.1.size HPL.out).mono ?_
    rintro e w3 ⟨rfl,hI,hK⟩
    have HI2:=iC.mk hI
    have HK2:=iC.mk (HK1.out.trans hK)
    clear hI hK
    go_wp2
    go_roundw
    case rel=>exact ⟨k+1,by omega,by go_num,⟨by rw [HREST.out,oH,← List.append_assoc];exact HI2.out⟩,HK2⟩
    case measure=>simp [intOf];omega
   ·skip
    obtain rfl:k=l6.length:=by omega
    have hI':=HI.out
    rw [List.take_length] at hI'
    have HI':=iC.mk hI'
    clear hI'
    go_wp2_with (first | (go_at_call 26;refine (Tryz.Buffer_Len w1.heap.size w1.heap.size _ _ (HI'.out)).mono ?_;rintro e wl ⟨rfl,nl,rfl⟩;rw [Lib.byteCells_length,← HLEN.out]) | (go_at_call 39;refine (Tryz.Buffer_Bytes w1.heap.size w1.heap.size _ _ (HI'.out.drewN _)).mono ?_;rintro e wb ⟨v,rfl,hv,nb,rfl⟩;have HV:=iC.mk hv;clear hv))
    go_ret2
    exact ⟨_,rfl,by rw [HX.out,jh3];exact rO HV.out HBW.out.size,by have hz:=HBW.out;have hy:=HK.out.1;exact iF (iH hz hy) _⟩
set_option maxHeartbeats 2000000 in
theorem jc7 (hs:jR ⟨a0,a1,a2,l3,l4,⟨a5,l6⟩,a7,a8,l9⟩=false):Calls Tryz.prog 41 #[.agg #[.int .u8 a0,.int .u32 a1,.int .u32 a2,.slice A3 l3.length c3,.slice A4 l4.length c4,.int .u32 a5,.slice A6 l6.length c6,.int .i64 a7,.int .i64 a8,.slice A9 l9.length c9]] w (rE w (encR ⟨a0,a1,a2,l3,l4,⟨a5,l6⟩,a7,a8,l9⟩)):=by
 have H3:=iC.mk h3;have H4:=iC.mk h4;have H6:=iC.mk h6;have H9:=iC.mk h9
 clear h3 h4 h6 h9
 unfold encR
 rw [if_neg (by rw [hs];exact Bool.false_ne_true)]
 have HS:=iC.mk hs
 clear hs
 go_enter Tryz.func41,Tryz.ntmps41
 go_wp2_with (first | (go_at_call 60;refine (code_Sound.calls a0 a1 a2 A3 c3 l3 A4 c4 l4 a5 A6 c6 l6 a7 a8 A9 c9 l9 _ _ (Kd.C_below H3.out bel_) d3 (Kd.C_below H4.out bel_) d4 (Kd.C_below H6.out bel_) d6 (Kd.C_below H9.out bel_) d9 rfl).mono ?_;rintro e w1 ⟨rfl,hb1⟩;rw [HS.out]))
 go_ret2
 exact ⟨_,rfl,Kd.R_nil _ _ _ _ _,iH (iD (Below.refl _ _) _) hb1⟩
end
theorem code_Encode.calls (a0_0:Int) (a0_1:Int) (a0_2:Int) (A0_3:Option Addr) (c0_3:Nat) (l0_3:List Int) (A0_4:Option Addr) (c0_4:Nat) (l0_4:List jQ) (a0_5:Int) (A0_6:Option Addr) (c0_6:Nat) (l0_6:List kC) (a0_7:Int) (a0_8:Int) (A0_9:Option Addr) (c0_9:Nat) (l0_9:List jJ) (r1:List Int) (r2:Int) (w:World) (hr0_3:Kd.C (Kd.int .i64) w A0_3 l0_3.length l0_3) (hc0_3:l0_3.length≤c0_3) (hr0_4:Kd.C k149 w A0_4 l0_4.length l0_4) (hc0_4:l0_4.length≤c0_4) (hr0_6:Kd.C k122 w A0_6 l0_6.length l0_6) (hc0_6:l0_6.length≤c0_6) (hr0_9:Kd.C k114 w A0_9 l0_9.length l0_9) (hc0_9:l0_9.length≤c0_9) (h:code_Encode.f a0_0 a0_1 a0_2 l0_3 l0_4 a0_5 l0_6 a0_7 a0_8 l0_9=some (r1,r2)) :
  Calls Tryz.prog 41 #[.agg #[.int .u8 a0_0,.int .u32 a0_1,.int .u32 a0_2,.slice A0_3 l0_3.length c0_3,.slice A0_4 l0_4.length c0_4,.int .u32 a0_5,.slice A0_6 l0_6.length c0_6,.int .i64 a0_7,.int .i64 a0_8,.slice A0_9 l0_9.length c0_9]] w fun e w'=>∃ v0_:Value,e=.returned (.tuple #[v0_,.int .u16 r2])∧Kd.R (Kd.int .u8) 5 w' w.heap.size (fun _=>True) v0_ r1∧Below w.heap.size w w':=by
 have e:=Option.some.inj h
 clear h
 have main:Calls Tryz.prog 41 #[.agg #[.int .u8 a0_0,.int .u32 a0_1,.int .u32 a0_2,.slice A0_3 l0_3.length c0_3,.slice A0_4 l0_4.length c0_4,.int .u32 a0_5,.slice A0_6 l0_6.length c0_6,.int .i64 a0_7,.int .i64 a0_8,.slice A0_9 l0_9.length c0_9]] w (rE w (encR ⟨a0_0,a0_1,a0_2,l0_3,l0_4,⟨a0_5,l0_6⟩,a0_7,a0_8,l0_9⟩)):=by
  clear e
  cases hs:jR ⟨a0_0,a0_1,a0_2,l0_3,l0_4,⟨a0_5,l0_6⟩,a0_7,a0_8,l0_9⟩ with
  | false=>exact jc7 a0_0 a0_1 a0_2 A0_3 c0_3 l0_3 A0_4 c0_4 l0_4 a0_5 A0_6 c0_6 l0_6 a0_7 a0_8 A0_9 c0_9 l0_9 w hr0_3 hc0_3 hr0_4 hc0_4 hr0_6 hc0_6 hr0_9 hc0_9 hs
  | true =>
   by_cases h0:a0_0<1∨7<a0_0
   ·rw [Z9 _ _ _ _ _ _ _ _ _ _ h0] at hs
    cases hs
   have h7:a0_0=1∨a0_0=2∨a0_0=3∨a0_0=4∨a0_0=5∨a0_0=6∨a0_0=7:=by omega
   rcases h7 with rfl | rfl | rfl | rfl | rfl | rfl | rfl
   ·exact j5_ a0_1 a0_2 A0_3 c0_3 l0_3 A0_4 c0_4 l0_4 a0_5 A0_6 c0_6 l0_6 a0_7 a0_8 A0_9 c0_9 l0_9 w hr0_3 hc0_3 hr0_4 hc0_4 hr0_6 hc0_6 hr0_9 hc0_9 hs
   ·exact jb0 a0_1 a0_2 A0_3 c0_3 l0_3 A0_4 c0_4 l0_4 a0_5 A0_6 c0_6 l0_6 a0_7 a0_8 A0_9 c0_9 l0_9 w hr0_3 hc0_3 hr0_4 hc0_4 hr0_6 hc0_6 hr0_9 hc0_9 hs
   ·exact jc8 a0_1 a0_2 A0_3 c0_3 l0_3 A0_4 c0_4 l0_4 a0_5 A0_6 c0_6 l0_6 a0_7 a0_8 A0_9 c0_9 l0_9 w hr0_3 hc0_3 hr0_4 hc0_4 hr0_6 hc0_6 hr0_9 hc0_9 hs
   ·exact ZT a0_1 a0_2 A0_3 c0_3 l0_3 A0_4 c0_4 l0_4 a0_5 A0_6 c0_6 l0_6 a0_7 a0_8 A0_9 c0_9 l0_9 w hr0_3 hc0_3 hr0_4 hc0_4 hr0_6 hc0_6 hr0_9 hc0_9 hs
   ·exact j04 a0_1 a0_2 A0_3 c0_3 l0_3 A0_4 c0_4 l0_4 a0_5 A0_6 c0_6 l0_6 a0_7 a0_8 A0_9 c0_9 l0_9 w hr0_3 hc0_3 hr0_4 hc0_4 hr0_6 hc0_6 hr0_9 hc0_9 hs
   ·exact jd6 a0_1 a0_2 A0_3 c0_3 l0_3 A0_4 c0_4 l0_4 a0_5 A0_6 c0_6 l0_6 a0_7 a0_8 A0_9 c0_9 l0_9 w hr0_3 hc0_3 hr0_4 hc0_4 hr0_6 hc0_6 hr0_9 hc0_9 hs
   ·exact j03 a0_1 a0_2 A0_3 c0_3 l0_3 A0_4 c0_4 l0_4 a0_5 A0_6 c0_6 l0_6 a0_7 a0_8 A0_9 c0_9 l0_9 w hr0_3 hc0_3 hr0_4 hc0_4 hr0_6 hc0_6 hr0_9 hc0_9 hs
 rw [e] at main
 exact main
end Go.Proofs.YtgfkgppomaapiaaGreatDoor.K
end
namespace Go.Proofs.YtgfkgppomaapiaaGreatDoor.K
open Go.RowKit Go.Proofs.YtgfkgppomaapiaaGreatDoorW.PrintWords Go.Proofs.YtgfkgppomaapiaaGreatDoorW.PrintLast Go.Proofs.YtgfkgppomaapiaaGreatDoorW.PrintMore
section
attribute [local go_sem] kL kH kZ lC
def stratumref07_Put.l0:Nat→List Int→Int→Int→Option (List Int)
 | 0,_,_,_=>none
 | k+1,x0,x1,x7=>if x7 ≥ 0 then (if 0≤(IntKind.u64.wrap (8 * (IntKind.u64.wrap (x7)))) then (if x0.length<140737488355328 then (stratumref07_Put.l0 k (x0 ++ [(shr .u64 x1 (IntKind.u64.wrap (8 * (IntKind.u64.wrap (x7))))) % 256]) x1 (wrap64 (x7 - 1))) else (none)) else (none)) else (some x0)
def stratumref07_Put.f (k:Nat) (l0:List Int) (a1:Int) (a2:Int):Option (List Int):=stratumref07_Put.l0 k l0 a1 (wrap64 (a2 - 1))
set_option maxHeartbeats 8000000 in
set_option maxRecDepth 100000 in
theorem stratumref07_Put.calls (k:Nat) (P0_:Nat→Prop) (u9000_:Value) (l0:List Int) (a1:Int) (a2:Int) (r:List Int) (w0 w:World) (hB:Below w0.heap.size w0 w) (ho0:Kd.R (Kd.int .u8) 5 w w0.heap.size P0_ u9000_ l0) (h:stratumref07_Put.f k l0 a1 a2=some r) :
  Calls Tryz.prog 72 #[u9000_,.int .u64 a1,.int .i64 a2] w fun e w'=>∃ v0_:Value,e=.returned (v0_)∧Kd.R (Kd.int .u8) 5 w' w0.heap.size (fun k_=>(P0_ k_∨w.heap.size≤k_)) v0_ r∧Below w0.heap.size w0 w'∧Kept w w' (fun k_=>P0_ k_):=by
 have HO0:=iC.mk (show Kd.R (Kd.int .u8) 5 w w0.heap.size (fun k_=>(P0_ k_∨w.heap.size≤k_)) u9000_ l0 from Kd.R_mono ho0 (fun k_ hk=>(.inl hk)))
 have HK:=iC.mk (Kept.refl w (fun k_=>P0_ k_))
 have HW0:=iC.mk hB.size
 have HB:=iC.mk hB
 clear hB
 have H:(stratumref07_Put.l0 k l0 a1 (wrap64 (a2 - 1)))=some r:=h
 clear h
 have H':=iC.mk H
 clear H
 go_enter Tryz.func72,Tryz.ntmps72
 go_wp2
 go_loopg [0,7] k (fun kq v0 v7 w'=>∃ (x0_1:List Int) (x7_1:Int),v7=.int .i64 x7_1∧iC (stratumref07_Put.l0 kq x0_1 a1 x7_1=some r)∧iC (kq≤k)∧iC (Kd.R (Kd.int .u8) 5 w' w0.heap.size (fun k_=>(P0_ k_∨w.heap.size≤k_)) v0 x0_1)∧iC (Kept w w' (fun k_=>P0_ k_))∧iC (Below w0.heap.size w0 w'))
 case atStart=>exact ⟨(l0),(wrap64 (a2 - 1)),(by first | rfl | (simp;done) | (simp [*];done)),H',⟨Nat.le_refl _⟩,⟨by (with_reducible repeat (first | apply Kd.R_alloc | apply Kd.R_drewN | apply Kd.R_drew));exact HO0.out⟩,⟨by repeat (first | (with_reducible first | exact HK.out | apply Kept.alloc | apply Kept.drewN | apply Kept.drew) | exact HK.out)⟩,⟨hb_⟩⟩
 case round =>
  clear H'
  try clear p2
  obtain ⟨x0_1,x7_1,rfl,HA,HK1,HO_0,HK,HB⟩:=hrel
  cases gk with
  | zero=>exact absurd HA.out (by simp [stratumref07_Put.l0])
  | succ k1 =>
   have H:=HA.out
   clear HA
   simp only [stratumref07_Put.l0] at H
   by_cases c4:x7_1 ≥ 0
   ·rw [if_pos c4] at H
    have c4b0:decide (0≤x7_1)=true:=decide_eq_true c4
    clear c4
    obtain ⟨ji5,hji5⟩:∃ j_:Int,(IntKind.u64.wrap (8 * (IntKind.u64.wrap (x7_1))))=j_:=⟨_,rfl⟩
    replace H:(if 0≤(ji5) then (if x0_1.length<140737488355328 then (stratumref07_Put.l0 k1 (x0_1 ++ [(shr .u64 a1 (ji5)) % 256]) a1 (wrap64 (x7_1 - 1))) else (none)) else (none))=some r:=by first | (rw [hji5] at H;exact H) | (simp only [hji5] at H ⊢;exact H)
    by_cases c6:0≤(ji5)
    ·rw [if_pos c6] at H
     have c6b0:=eq_true c6
     have c6b1:decide (0≤(ji5))=true:=decide_eq_true c6
     clear c6
     obtain ⟨ji7,hji7⟩:∃ j_:Int,(shr .u64 a1 (ji5))=j_:=⟨_,rfl⟩
     replace H:(if x0_1.length<140737488355328 then (stratumref07_Put.l0 k1 (x0_1 ++ [(ji7) % 256]) a1 (wrap64 (x7_1 - 1))) else (none))=some r:=by first | (rw [hji7] at H;exact H) | (simp only [hji7] at H ⊢;exact H)
     have hji7_:(a1 / 2 ^ min (ji5).toNat 64)=ji7:=hji7
     have hji7z:(ji5)≤64→(a1 / 2 ^ (ji5).toNat)=ji7:=XJ hji7
     by_cases c8:x0_1.length<140737488355328
     ·rw [if_pos c8] at H
      have LMc8:=iC.mk c8
      clear c8
      obtain ⟨y174,hy174⟩:∃ y_:List Int,y_=(x0_1 ++ [(ji7) % 256]):=⟨_,rfl⟩
      replace H:(stratumref07_Put.l0 k1 y174 a1 (wrap64 (x7_1 - 1)))=some r:=by first | (rw [hy174];with_reducible exact H) | (have H2_:=(Option.bind_some _ _).symm.trans H;rw [hy174];with_reducible exact H2_) | (have H2_:=(Option.bind_some _ _).symm.trans H;with_reducible exact H2_) | with_reducible exact H | (rw [hy174];exact H) | exact H
      have Ny174:=iC.mk hy174
      clear hy174
      have H':=iC.mk H
      clear H
      go_wp2_with (first | ((with_reducible refine rX (b:=.append) (xs:=#[.tmp 14,.tmp 21]) rfl ?_);at_builtin;refine Kd.R_append (Kd.int .u8) (w0:=w0) w0.heap.size rfl (.tmp 14) (.tmp 21) 22 5 (.int .u8 0) 1 rfl Tryz.underlying22 info5 rfl (by decide) (by omega) u0 x0_1 ((ji7) % 256) [.int .u8 ((ji7) % 256)] (fun k_=>(P0_ k_∨w.heap.size≤k_)) (fun _=>False) rfl rfl ?aP (fun _ hk=>hk.elim) ?aF ?aO ?aB ?aS ?aL ?_;(case aP=>exact rfl);(case aB=>exact hb_);(case aF=>exact (fun k_ hk=>(.inr (Nat.le_trans (by first | exact HK.out.1 | exact (show Kept w _ (fun k_=>P0_ k_) from by repeat (first | (with_reducible first | exact HK.out | apply Kept.alloc | apply Kept.drewN | apply Kept.drew) | exact HK.out)).1) hk))));(case aO=>exact (by (with_reducible repeat (first | apply Kd.R_alloc | apply Kd.R_drewN | apply Kd.R_drew));exact HO_0.out));(case aS=>exact (iT hb_));(case aL=>have:=LMc8.out;omega);intro v175 w9 ho hb hg hat;rw [← Ny174.out] at ho;have n0_:=iC.mk (hb);have n1_:=iC.mk (Kept.of_grown (S:=(fun k_=>P0_ k_)) hg (by repeat (first | (with_reducible first | exact HK.out | apply Kept.alloc | apply Kept.drewN | apply Kept.drew) | exact HK.out)) (fun k_ e_=>(HO_0.out.1 k_ e_)));have n2_:=iC.mk (ho);clear HB;clear HK;clear HO_0;have HB:=n0_;have HK:=n1_;have HO176:=n2_;clear n0_ n1_ n2_;clear ho hb hg hat))
      go_roundg k1
      case measure=>have:=HK1.out;omega
      case rel=>exact ⟨(y174),(wrap64 (x7_1 - 1)),(by first | rfl | (simp;done) | (simp [*];done)),H',⟨by have:=HK1.out;omega⟩,⟨by (with_reducible repeat (first | apply Kd.R_alloc | apply Kd.R_drewN | apply Kd.R_drew));exact HO176.out⟩,⟨by repeat (first | (with_reducible first | exact HK.out | apply Kept.alloc | apply Kept.drewN | apply Kept.drew) | exact HK.out)⟩,⟨hb_⟩⟩
     ·rw [if_neg c8] at H
      exact absurd H (by simp)
    ·rw [if_neg c6] at H
     exact absurd H (by simp)
   ·rw [if_neg c4] at H
    have c4b0:decide (0≤x7_1)=false:=decide_eq_false c4
    clear c4
    obtain rfl:=Option.some.inj H
    go_wp2
    go_ret
    exact ⟨_,by first | rfl | (simp [jF,jG] <;> rfl) | (simp [*,jF,jG] <;> rfl),by (with_reducible repeat (first | apply Kd.R_alloc | apply Kd.R_drewN | apply Kd.R_drew));exact HO_0.out,hb_,by repeat (first | (with_reducible first | exact HK.out | apply Kept.alloc | apply Kept.drewN | apply Kept.drew) | exact HK.out)⟩
end
section
attribute [local go_sem] kL kH kZ lC
def stratumref07_Nodes.l0:Nat→List Int→List Int→Int→Option (List Int)
 | 0,_,_,_=>none
 | k+1,x0,x1,x5=>if x5<(x1.length:Int) then (if 0≤x5 then ((stratumref07_Put.f k x0 (IntKind.u64.wrap (rd x1 x5)) 1).bind fun t181=>(stratumref07_Nodes.l0 k t181 x1 (wrap64 (x5+1)))) else (none)) else (some x0)
def stratumref07_Nodes.f (k:Nat) (l0:List Int) (l1:List Int):Option (List Int):=(stratumref07_Put.f k l0 (IntKind.u64.wrap ((l1.length:Int))) 1).bind fun t177=>(stratumref07_Nodes.l0 k t177 l1 0)
set_option maxHeartbeats 8000000 in
set_option maxRecDepth 100000 in
theorem stratumref07_Nodes.calls (k:Nat) (P0_:Nat→Prop) (u9000_:Value) (l0:List Int) (A1:Option Addr) (c1:Nat) (l1:List Int) (r:List Int) (w0 w:World) (hB:Below w0.heap.size w0 w) (ho0:Kd.R (Kd.int .u8) 5 w w0.heap.size P0_ u9000_ l0) (hr1:∀ W_,Kept w W_ (fun k_=>P0_ k_)→Kd.C (Kd.int .i64) W_ A1 l1.length l1) (hc1:l1.length≤c1) (h:stratumref07_Nodes.f k l0 l1=some r) :
  Calls Tryz.prog 73 #[u9000_,.slice A1 l1.length c1] w fun e w'=>∃ v0_:Value,e=.returned (v0_)∧Kd.R (Kd.int .u8) 5 w' w0.heap.size (fun k_=>(P0_ k_∨w.heap.size≤k_)) v0_ r∧Below w0.heap.size w0 w'∧Kept w w' (fun k_=>P0_ k_):=by
 have HO0:=iC.mk (show Kd.R (Kd.int .u8) 5 w w0.heap.size (fun k_=>(P0_ k_∨w.heap.size≤k_)) u9000_ l0 from Kd.R_mono ho0 (fun k_ hk=>(.inl hk)))
 have HR1:=iC.mk hr1
 have HC1:=iC.mk hc1
 clear hr1 hc1
 have HK:=iC.mk (Kept.refl w (fun k_=>P0_ k_))
 have HW0:=iC.mk hB.size
 have HB:=iC.mk hB
 clear hB
 have H:((stratumref07_Put.f k l0 (IntKind.u64.wrap ((l1.length:Int))) 1).bind fun t177=>(stratumref07_Nodes.l0 k t177 l1 0))=some r:=h
 clear h
 replace H:=Option.bind_eq_some_iff.mp H
 obtain ⟨t177,A30,H⟩:=H
 replace H:(stratumref07_Nodes.l0 k t177 l1 0)=some r:=H
 have A3:=iC.mk A30
 clear A30
 have H':=iC.mk H
 clear H
 obtain ⟨Ao4,co4,eo4⟩:=Kd.R_slice HO0.out
 subst eo4
 go_enter Tryz.func73,Tryz.ntmps73
 go_wp2_with (first | ((with_reducible refine oU (f:=72) rfl ?_);refine L9 (some 10) rfl rfl Tryz.func72 (by kernel_rfl) rfl #[.slice Ao4 l0.length co4,.int .u64 (IntKind.u64.wrap ((l1.length:Int))),.int .i64 1] rfl (by (try simp only [List.map_toArray,List.map_cons,List.map_nil]);first | done | rfl | (simp only [List.length_drop,List.length_take];rfl)) ?_;(with_reducible refine (stratumref07_Put.calls k (fun k_=>some k_=(.slice Ao4 l0.length co4:Value).ownBlock) (.slice Ao4 l0.length co4) l0 (IntKind.u64.wrap ((l1.length:Int))) 1 t177 w0 _ ?side1 ?side2 A3.out).mono ?_);(case side1=>repeat (first | (with_reducible first | exact HB.out | apply iD | apply iF | apply iQ) | exact HB.out));(case side2=>exact Kd.R_tight rfl HO0.out);rintro e w5 ⟨v178,rfl,ho0,hb,hkp⟩;refine ⟨_,rfl,?_⟩;have n0_:=iC.mk (Kd.R_mono (ok':=fun k_=>(P0_ k_∨w.heap.size≤k_)) ho0 (fun k_ hk_=>Or.elim hk_ (fun hs_=>(HO0.out.1 k_ (hs_).symm)) (fun hn_=>(.inr (Nat.le_trans (by first | exact HK.out.1 | exact (show Kept w _ (fun k_=>P0_ k_) from by repeat (first | (with_reducible first | exact HK.out | apply Kept.alloc | apply Kept.drewN | apply Kept.drew) | exact HK.out)).1) hn_)))));have n1_:=iC.mk (Kept.then_ (S:=(fun k_=>P0_ k_)) (by repeat (first | (with_reducible first | exact HK.out | apply Kept.alloc | apply Kept.drewN | apply Kept.drew) | exact HK.out)) hkp (fun k_ hs_=>(fun e_=>(HO0.out.1 k_ e_.symm)) hs_));have n2_:=iC.mk (hb);clear HK;clear HB;clear HO0;have HO179:=n0_;have HK:=n1_;have HB:=n2_;clear n0_ n1_ n2_;(try clear hb);(try clear hkp);(try clear ho0)))
 go_loopg [0,5] k (fun kq v0 v5 w'=>∃ (x0_1:List Int) (x5_1:Int),v5=.int .i64 x5_1∧iC (stratumref07_Nodes.l0 kq x0_1 l1 x5_1=some r)∧iC (kq≤k)∧iC (Kd.R (Kd.int .u8) 5 w' w0.heap.size (fun k_=>(P0_ k_∨w.heap.size≤k_)) v0 x0_1)∧iC (Kept w w' (fun k_=>P0_ k_))∧iC (Below w0.heap.size w0 w'))
 case atStart=>exact ⟨(t177),(0),(by first | rfl | (simp;done) | (simp [*];done)),H',⟨Nat.le_refl _⟩,⟨by (with_reducible repeat (first | apply Kd.R_alloc | apply Kd.R_drewN | apply Kd.R_drew));exact HO179.out⟩,⟨by repeat (first | (with_reducible first | exact HK.out | apply Kept.alloc | apply Kept.drewN | apply Kept.drew) | exact HK.out)⟩,⟨hb_⟩⟩
 case round =>
  clear H'
  try clear c1
  try clear p2
  obtain ⟨x0_1,x5_1,rfl,HA,HK1,HO_0,HK,HB⟩:=hrel
  cases gk with
  | zero=>exact absurd HA.out (by simp [stratumref07_Nodes.l0])
  | succ k1 =>
   have H:=HA.out
   clear HA
   simp only [stratumref07_Nodes.l0] at H
   by_cases c6:x5_1<(l1.length:Int)
   ·rw [if_pos c6] at H
    have c6b0:decide (x5_1<(l1.length:Int))=true:=decide_eq_true c6
    clear c6
    by_cases c7:0≤x5_1
    ·rw [if_pos c7] at H
     have c7b0:decide (0≤x5_1)=true:=decide_eq_true c7
     clear c7
     replace H:=Option.bind_eq_some_iff.mp H
     obtain ⟨t181,A80,H⟩:=H
     replace H:(stratumref07_Nodes.l0 k1 t181 l1 (wrap64 (x5_1+1)))=some r:=H
     have A8:=iC.mk A80
     clear A80
     have H':=iC.mk H
     clear H
     have p180:0≤(x5_1:Int):=of_decide_eq_true asm_
     have q180:x5_1<(l1.length:Int):=of_decide_eq_true asm_
     obtain ⟨ad180,e180,hx180_0⟩:=Kd.at_int (Kd.C_kept_now HR1.out HK.out) x5_1 p180 q180
     cases e180
     replace p180:=eq_true p180
     replace q180:=eq_true q180
     obtain ⟨Ao9,co9,eo9⟩:=Kd.R_slice HO_0.out
     subst eo9
     go_wp2_with (first | ((with_reducible refine oU (f:=72) rfl ?_);refine L9 (some 23) rfl rfl Tryz.func72 (by kernel_rfl) rfl #[.slice Ao9 x0_1.length co9,.int .u64 (IntKind.u64.wrap (rd l1 x5_1)),.int .i64 1] rfl (by (try simp only [List.map_toArray,List.map_cons,List.map_nil]);first | done | rfl | (simp only [List.length_drop,List.length_take];rfl)) ?_;(with_reducible refine (stratumref07_Put.calls k1 (fun k_=>some k_=(.slice Ao9 x0_1.length co9:Value).ownBlock) (.slice Ao9 x0_1.length co9) x0_1 (IntKind.u64.wrap (rd l1 x5_1)) 1 t181 w0 _ ?side1 ?side2 A8.out).mono ?_);(case side1=>repeat (first | (with_reducible first | exact HB.out | apply iD | apply iF | apply iQ) | exact HB.out));(case side2=>exact Kd.R_tight rfl HO_0.out);rintro e w10 ⟨v182,rfl,ho0,hb,hkp⟩;refine ⟨_,rfl,?_⟩;have n0_:=iC.mk (Kd.R_mono (ok':=fun k_=>(P0_ k_∨w.heap.size≤k_)) ho0 (fun k_ hk_=>Or.elim hk_ (fun hs_=>(HO_0.out.1 k_ (hs_).symm)) (fun hn_=>(.inr (Nat.le_trans (by first | exact HK.out.1 | exact (show Kept w _ (fun k_=>P0_ k_) from by repeat (first | (with_reducible first | exact HK.out | apply Kept.alloc | apply Kept.drewN | apply Kept.drew) | exact HK.out)).1) hn_)))));have n1_:=iC.mk (Kept.then_ (S:=(fun k_=>P0_ k_)) (by repeat (first | (with_reducible first | exact HK.out | apply Kept.alloc | apply Kept.drewN | apply Kept.drew) | exact HK.out)) hkp (fun k_ hs_=>(fun e_=>(HO_0.out.1 k_ e_.symm)) hs_));have n2_:=iC.mk (hb);clear HK;clear HB;clear HO_0;have HO183:=n0_;have HK:=n1_;have HB:=n2_;clear n0_ n1_ n2_;(try clear hb);(try clear hkp);(try clear ho0)))
     go_roundg k1
     case measure=>have:=HK1.out;omega
     case rel=>exact ⟨(t181),(wrap64 (x5_1+1)),(by first | rfl | (simp;done) | (simp [*];done)),H',⟨by have:=HK1.out;omega⟩,⟨by (with_reducible repeat (first | apply Kd.R_alloc | apply Kd.R_drewN | apply Kd.R_drew));exact HO183.out⟩,⟨by repeat (first | (with_reducible first | exact HK.out | apply Kept.alloc | apply Kept.drewN | apply Kept.drew) | exact HK.out)⟩,⟨hb_⟩⟩
    ·rw [if_neg c7] at H
     exact absurd H (by simp)
   ·rw [if_neg c6] at H
    have c6b0:decide (x5_1<(l1.length:Int))=false:=decide_eq_false c6
    clear c6
    obtain rfl:=Option.some.inj H
    go_wp2
    go_ret
    exact ⟨_,by first | rfl | (simp [jF,jG] <;> rfl) | (simp [*,jF,jG] <;> rfl),by (with_reducible repeat (first | apply Kd.R_alloc | apply Kd.R_drewN | apply Kd.R_drew));exact HO_0.out,hb_,by repeat (first | (with_reducible first | exact HK.out | apply Kept.alloc | apply Kept.drewN | apply Kept.drew) | exact HK.out)⟩
end
end Go.Proofs.YtgfkgppomaapiaaGreatDoor.K
section
namespace Go.Proofs.YtgfkgppomaapiaaGreatDoor.K
open Go.RowKit Go.Proofs.YtgfkgppomaapiaaGreatDoorW.PrintWords Go.Proofs.YtgfkgppomaapiaaGreatDoorW.PrintLast Go.Proofs.YtgfkgppomaapiaaGreatDoorW.PrintMore
attribute [local go_sem] kL kH kZ lC
mutual
def stratumref07_Facts.l0:Nat→List Int→List (S149)→Int→Option (List Int)
 | 0,_,_,_=>none
 | k+1,x0,x1,x5=>if x5<(x1.length:Int) then (if 0≤x5 then ((stratumref07_Put.f k x0 (IntKind.u64.wrap ((((iR x1 x5).f0).length:Int))) 1).bind fun t188=>(stratumref07_Facts.l1 k t188 x1 x5 0)) else (none)) else (some x0)
def stratumref07_Facts.l1:Nat→List Int→List (S149)→Int→Int→Option (List Int)
 | 0,_,_,_,_=>none
 | k+1,x0,x1,x5,x6=>if 0≤x5 then (if x5<(x1.length:Int) then (if x6<(((iR x1 x5).f0).length:Int) then (if 0≤x6 then ((stratumref07_Put.f k x0 (IntKind.u64.wrap (rd ((iR x1 x5).f0) x6)) 4).bind fun t194=>(stratumref07_Facts.l1 k t194 x1 x5 (wrap64 (x6+1)))) else (none)) else ((stratumref07_Put.f k x0 (IntKind.u64.wrap ((iR x1 x5).f1)) 8).bind fun t198=>(stratumref07_Facts.l0 k t198 x1 (wrap64 (x5+1))))) else (none)) else (none)
end
def stratumref07_Facts.f (k:Nat) (l0:List Int) (l1:List (S149)):Option (List Int):=(stratumref07_Put.f k l0 (IntKind.u64.wrap ((l1.length:Int))) 4).bind fun t184=>(stratumref07_Facts.l0 k t184 l1 0)
set_option maxHeartbeats 8000000 in
set_option maxRecDepth 100000 in
theorem stratumref07_Facts.calls (k:Nat) (P0_:Nat→Prop) (u9000_:Value) (l0:List Int) (A1:Option Addr) (c1:Nat) (l1:List (S149)) (r:List Int) (w0 w:World) (hB:Below w0.heap.size w0 w) (ho0:Kd.R (Kd.int .u8) 5 w w0.heap.size P0_ u9000_ l0) (hr1:∀ W_,Kept w W_ (fun k_=>P0_ k_)→Kd.C k149 W_ A1 l1.length l1) (hc1:l1.length≤c1) (h:stratumref07_Facts.f k l0 l1=some r) :
  Calls Tryz.prog 74 #[u9000_,.slice A1 l1.length c1] w fun e w'=>∃ v0_:Value,e=.returned (v0_)∧Kd.R (Kd.int .u8) 5 w' w0.heap.size (fun k_=>(P0_ k_∨w.heap.size≤k_)) v0_ r∧Below w0.heap.size w0 w'∧Kept w w' (fun k_=>P0_ k_):=by
 have HO0:=iC.mk (show Kd.R (Kd.int .u8) 5 w w0.heap.size (fun k_=>(P0_ k_∨w.heap.size≤k_)) u9000_ l0 from Kd.R_mono ho0 (fun k_ hk=>(.inl hk)))
 have HR1:=iC.mk hr1
 have HC1:=iC.mk hc1
 clear hr1 hc1
 have HK:=iC.mk (Kept.refl w (fun k_=>P0_ k_))
 have HW0:=iC.mk hB.size
 have HB:=iC.mk hB
 clear hB
 have H:((stratumref07_Put.f k l0 (IntKind.u64.wrap ((l1.length:Int))) 4).bind fun t184=>(stratumref07_Facts.l0 k t184 l1 0))=some r:=h
 clear h
 replace H:=Option.bind_eq_some_iff.mp H
 obtain ⟨t184,A30,H⟩:=H
 replace H:(stratumref07_Facts.l0 k t184 l1 0)=some r:=H
 have A3:=iC.mk A30
 clear A30
 have H':=iC.mk H
 clear H
 obtain ⟨Ao4,co4,eo4⟩:=Kd.R_slice HO0.out
 subst eo4
 go_enter Tryz.func74,Tryz.ntmps74
 go_wp2_with (first | ((with_reducible refine oU (f:=72) rfl ?_);refine L9 (some 11) rfl rfl Tryz.func72 (by kernel_rfl) rfl #[.slice Ao4 l0.length co4,.int .u64 (IntKind.u64.wrap ((l1.length:Int))),.int .i64 4] rfl (by (try simp only [List.map_toArray,List.map_cons,List.map_nil]);first | done | rfl | (simp only [List.length_drop,List.length_take];rfl)) ?_;(with_reducible refine (stratumref07_Put.calls k (fun k_=>some k_=(.slice Ao4 l0.length co4:Value).ownBlock) (.slice Ao4 l0.length co4) l0 (IntKind.u64.wrap ((l1.length:Int))) 4 t184 w0 _ ?side1 ?side2 A3.out).mono ?_);(case side1=>repeat (first | (with_reducible first | exact HB.out | apply iD | apply iF | apply iQ) | exact HB.out));(case side2=>exact Kd.R_tight rfl HO0.out);rintro e w5 ⟨v185,rfl,ho0,hb,hkp⟩;refine ⟨_,rfl,?_⟩;have n0_:=iC.mk (Kd.R_mono (ok':=fun k_=>(P0_ k_∨w.heap.size≤k_)) ho0 (fun k_ hk_=>Or.elim hk_ (fun hs_=>(HO0.out.1 k_ (hs_).symm)) (fun hn_=>(.inr (Nat.le_trans (by first | exact HK.out.1 | exact (show Kept w _ (fun k_=>P0_ k_) from by repeat (first | (with_reducible first | exact HK.out | apply Kept.alloc | apply Kept.drewN | apply Kept.drew) | exact HK.out)).1) hn_)))));have n1_:=iC.mk (Kept.then_ (S:=(fun k_=>P0_ k_)) (by repeat (first | (with_reducible first | exact HK.out | apply Kept.alloc | apply Kept.drewN | apply Kept.drew) | exact HK.out)) hkp (fun k_ hs_=>(fun e_=>(HO0.out.1 k_ e_.symm)) hs_));have n2_:=iC.mk (hb);clear HK;clear HB;clear HO0;have HO186:=n0_;have HK:=n1_;have HB:=n2_;clear n0_ n1_ n2_;(try clear hb);(try clear hkp);(try clear ho0)))
 go_loopg [0,5] k (fun kq v0 v5 w'=>∃ (x0_1:List Int) (x5_1:Int),v5=.int .i64 x5_1∧iC (stratumref07_Facts.l0 kq x0_1 l1 x5_1=some r)∧iC (kq≤k)∧iC (Kd.R (Kd.int .u8) 5 w' w0.heap.size (fun k_=>(P0_ k_∨w.heap.size≤k_)) v0 x0_1)∧iC (Kept w w' (fun k_=>P0_ k_))∧iC (Below w0.heap.size w0 w'))
 case atStart=>exact ⟨(t184),(0),(by first | rfl | (simp;done) | (simp [*];done)),H',⟨Nat.le_refl _⟩,⟨by (with_reducible repeat (first | apply Kd.R_alloc | apply Kd.R_drewN | apply Kd.R_drew));exact HO186.out⟩,⟨by repeat (first | (with_reducible first | exact HK.out | apply Kept.alloc | apply Kept.drewN | apply Kept.drew) | exact HK.out)⟩,⟨hb_⟩⟩
 case round =>
  clear H'
  try clear c1
  try clear p2
  obtain ⟨x0_1,x5_1,rfl,HA,HK1,HO_0,HK,HB⟩:=hrel
  cases gk with
  | zero=>exact absurd HA.out (by simp [stratumref07_Facts.l0])
  | succ k1 =>
   have H:=HA.out
   clear HA
   simp only [stratumref07_Facts.l0] at H
   by_cases c6:x5_1<(l1.length:Int)
   ·rw [if_pos c6] at H
    have c6b0:decide (x5_1<(l1.length:Int))=true:=decide_eq_true c6
    clear c6
    by_cases c7:0≤x5_1
    ·rw [if_pos c7] at H
     have c7b0:decide (0≤x5_1)=true:=decide_eq_true c7
     clear c7
     replace H:=Option.bind_eq_some_iff.mp H
     obtain ⟨t188,A80,H⟩:=H
     replace H:(stratumref07_Facts.l1 k1 t188 l1 x5_1 0)=some r:=H
     have A8:=iC.mk A80
     clear A80
     have H':=iC.mk H
     clear H
     have p187:0≤(x5_1:Int):=of_decide_eq_true asm_
     have q187:x5_1<(l1.length:Int):=of_decide_eq_true asm_
     obtain ⟨ad187,A187_0,c187_0,e187,hx187_0,hx187_1,hl187_0,hi187_0⟩:=kU (Kd.C_kept_now HR1.out HK.out) x5_1 p187 q187
     cases e187
     have HR187_0:=iC.mk hi187_0
     have HC187_0:=iC.mk hl187_0
     clear hi187_0 hl187_0
     replace p187:=eq_true p187
     replace q187:=eq_true q187
     obtain ⟨Ao9,co9,eo9⟩:=Kd.R_slice HO_0.out
     subst eo9
     go_wp2_with (first | ((with_reducible refine oU (f:=72) rfl ?_);refine L9 (some 26) rfl rfl Tryz.func72 (by kernel_rfl) rfl #[.slice Ao9 x0_1.length co9,.int .u64 (IntKind.u64.wrap ((((iR l1 x5_1).f0).length:Int))),.int .i64 1] rfl (by (try simp only [List.map_toArray,List.map_cons,List.map_nil]);first | done | rfl | (simp only [List.length_drop,List.length_take];rfl)) ?_;(with_reducible refine (stratumref07_Put.calls k1 (fun k_=>some k_=(.slice Ao9 x0_1.length co9:Value).ownBlock) (.slice Ao9 x0_1.length co9) x0_1 (IntKind.u64.wrap ((((iR l1 x5_1).f0).length:Int))) 1 t188 w0 _ ?side1 ?side2 A8.out).mono ?_);(case side1=>repeat (first | (with_reducible first | exact HB.out | apply iD | apply iF | apply iQ) | exact HB.out));(case side2=>exact Kd.R_tight rfl HO_0.out);rintro e w10 ⟨v189,rfl,ho0,hb,hkp⟩;refine ⟨_,rfl,?_⟩;have n0_:=iC.mk (Kd.R_mono (ok':=fun k_=>(P0_ k_∨w.heap.size≤k_)) ho0 (fun k_ hk_=>Or.elim hk_ (fun hs_=>(HO_0.out.1 k_ (hs_).symm)) (fun hn_=>(.inr (Nat.le_trans (by first | exact HK.out.1 | exact (show Kept w _ (fun k_=>P0_ k_) from by repeat (first | (with_reducible first | exact HK.out | apply Kept.alloc | apply Kept.drewN | apply Kept.drew) | exact HK.out)).1) hn_)))));have n1_:=iC.mk (Kept.then_ (S:=(fun k_=>P0_ k_)) (by repeat (first | (with_reducible first | exact HK.out | apply Kept.alloc | apply Kept.drewN | apply Kept.drew) | exact HK.out)) hkp (fun k_ hs_=>(fun e_=>(HO_0.out.1 k_ e_.symm)) hs_));have n2_:=iC.mk (hb);clear HK;clear HB;clear HO_0;have HO190:=n0_;have HK:=n1_;have HB:=n2_;clear n0_ n1_ n2_;(try clear hb);(try clear hkp);(try clear ho0)))
     go_loopg [0,6] k1 (fun kq v0 v6 w'=>∃ (x0_2:List Int) (x6_2:Int),v6=.int .i64 x6_2∧iC (stratumref07_Facts.l1 kq x0_2 l1 x5_1 x6_2=some r)∧iC (kq≤k1)∧iC (Kd.R (Kd.int .u8) 5 w' w0.heap.size (fun k_=>(P0_ k_∨w.heap.size≤k_)) v0 x0_2)∧iC (Kept w w' (fun k_=>P0_ k_))∧iC (Below w0.heap.size w0 w'))
     case atStart=>exact ⟨(t188),(0),(by first | rfl | (simp;done) | (simp [*];done)),H',⟨Nat.le_refl _⟩,⟨by (with_reducible repeat (first | apply Kd.R_alloc | apply Kd.R_drewN | apply Kd.R_drew));exact HO190.out⟩,⟨by repeat (first | (with_reducible first | exact HK.out | apply Kept.alloc | apply Kept.drewN | apply Kept.drew) | exact HK.out)⟩,⟨hb_⟩⟩
     case round =>
      clear H'
      try clear c1
      try clear p1
      try clear q1
      try clear hx1
      try clear p2
      try clear c6
      try clear c6b0
      try clear c7
      try clear c7b0
      try clear hx187_0
      try clear hx187_1
      try clear p187
      try clear p2
      try clear q187
      obtain ⟨x0_2,x6_2,rfl,HA,HK2,HO_0,HK,HB⟩:=hrel
      cases gk with
      | zero=>exact absurd HA.out (by simp [stratumref07_Facts.l1])
      | succ k2 =>
       have H:=HA.out
       clear HA
       simp only [stratumref07_Facts.l1] at H
       by_cases c11:0≤x5_1
       ·rw [if_pos c11] at H
        have c11b0:decide (0≤x5_1)=true:=decide_eq_true c11
        clear c11
        by_cases c12:x5_1<(l1.length:Int)
        ·rw [if_pos c12] at H
         have c12b0:decide (x5_1<(l1.length:Int))=true:=decide_eq_true c12
         clear c12
         by_cases c13:x6_2<(((iR l1 x5_1).f0).length:Int)
         ·rw [if_pos c13] at H
          have c13b0:decide (x6_2<(((iR l1 x5_1).f0).length:Int))=true:=decide_eq_true c13
          clear c13
          by_cases c14:0≤x6_2
          ·rw [if_pos c14] at H
           have c14b0:decide (0≤x6_2)=true:=decide_eq_true c14
           clear c14
           replace H:=Option.bind_eq_some_iff.mp H
           obtain ⟨t194,A150,H⟩:=H
           replace H:(stratumref07_Facts.l1 k2 t194 l1 x5_1 (wrap64 (x6_2+1)))=some r:=H
           have A15:=iC.mk A150
           clear A150
           have H':=iC.mk H
           clear H
           have p191:0≤(x5_1:Int):=of_decide_eq_true asm_
           have q191:x5_1<(l1.length:Int):=of_decide_eq_true asm_
           obtain ⟨ad191,A191_0,c191_0,e191,hx191_0,hx191_1,hl191_0,hi191_0⟩:=kU (Kd.C_kept_now HR1.out HK.out) x5_1 p191 q191
           obtain rfl:ad187=ad191:=(by injection e191)
           have HR191_0:=iC.mk hi191_0
           have HC191_0:=iC.mk hl191_0
           clear hi191_0 hl191_0
           replace p191:=eq_true p191
           replace q191:=eq_true q191
           have p192:0≤(x5_1:Int):=of_decide_eq_true asm_
           have q192:x5_1<(l1.length:Int):=of_decide_eq_true asm_
           obtain ⟨ad192,A192_0,c192_0,e192,hx192_0,hx192_1,hl192_0,hi192_0⟩:=kU (Kd.C_kept_now HR1.out HK.out) x5_1 p192 q192
           obtain rfl:ad187=ad192:=(by injection e192)
           have HR192_0:=iC.mk hi192_0
           have HC192_0:=iC.mk hl192_0
           clear hi192_0 hl192_0
           replace p192:=eq_true p192
           replace q192:=eq_true q192
           have ea_:=Option.some.inj (hx191_0.symm.trans hx192_0)
           injection ea_ with ea_ en_ ec_
           subst ea_
           subst ec_
           clear en_
           have p193:0≤(x6_2:Int):=of_decide_eq_true asm_
           have q193:x6_2<(((iR l1 x5_1).f0).length:Int):=of_decide_eq_true asm_
           obtain ⟨ad193,e193,hx193_0⟩:=Kd.at_int (by repeat (first | (with_reducible exact HR192_0.out) | (with_reducible refine Kd.C_alloc ?_ _) | (with_reducible refine Kd.C_drewN ?_ _) | (with_reducible refine Kd.C_drew ?_) | exact HR192_0.out)) x6_2 p193 q193
           cases e193
           replace p193:=eq_true p193
           replace q193:=eq_true q193
           obtain ⟨Ao16,co16,eo16⟩:=Kd.R_slice HO_0.out
           subst eo16
           go_wp2_with (first | ((with_reducible refine oU (f:=72) rfl ?_);refine L9 (some 47) rfl rfl Tryz.func72 (by kernel_rfl) rfl #[.slice Ao16 x0_2.length co16,.int .u64 (IntKind.u64.wrap (rd ((iR l1 x5_1).f0) x6_2)),.int .i64 4] rfl (by (try simp only [List.map_toArray,List.map_cons,List.map_nil]);first | done | rfl | (simp only [List.length_drop,List.length_take];rfl)) ?_;(with_reducible refine (stratumref07_Put.calls k2 (fun k_=>some k_=(.slice Ao16 x0_2.length co16:Value).ownBlock) (.slice Ao16 x0_2.length co16) x0_2 (IntKind.u64.wrap (rd ((iR l1 x5_1).f0) x6_2)) 4 t194 w0 _ ?side1 ?side2 A15.out).mono ?_);(case side1=>repeat (first | (with_reducible first | exact HB.out | apply iD | apply iF | apply iQ) | exact HB.out));(case side2=>exact Kd.R_tight rfl HO_0.out);rintro e w17 ⟨v195,rfl,ho0,hb,hkp⟩;refine ⟨_,rfl,?_⟩;have n0_:=iC.mk (Kd.R_mono (ok':=fun k_=>(P0_ k_∨w.heap.size≤k_)) ho0 (fun k_ hk_=>Or.elim hk_ (fun hs_=>(HO_0.out.1 k_ (hs_).symm)) (fun hn_=>(.inr (Nat.le_trans (by first | exact HK.out.1 | exact (show Kept w _ (fun k_=>P0_ k_) from by repeat (first | (with_reducible first | exact HK.out | apply Kept.alloc | apply Kept.drewN | apply Kept.drew) | exact HK.out)).1) hn_)))));have n1_:=iC.mk (Kept.then_ (S:=(fun k_=>P0_ k_)) (by repeat (first | (with_reducible first | exact HK.out | apply Kept.alloc | apply Kept.drewN | apply Kept.drew) | exact HK.out)) hkp (fun k_ hs_=>(fun e_=>(HO_0.out.1 k_ e_.symm)) hs_));have n2_:=iC.mk (hb);clear HK;clear HB;clear HO_0;have HO196:=n0_;have HK:=n1_;have HB:=n2_;clear n0_ n1_ n2_;(try clear hb);(try clear hkp);(try clear ho0)))
           go_roundg k2
           case measure=>have:=HK1.out;have:=HK2.out;omega
           case rel=>exact ⟨(t194),(wrap64 (x6_2+1)),(by first | rfl | (simp;done) | (simp [*];done)),H',⟨by have:=HK1.out;have:=HK2.out;omega⟩,⟨by (with_reducible repeat (first | apply Kd.R_alloc | apply Kd.R_drewN | apply Kd.R_drew));exact HO196.out⟩,⟨by repeat (first | (with_reducible first | exact HK.out | apply Kept.alloc | apply Kept.drewN | apply Kept.drew) | exact HK.out)⟩,⟨hb_⟩⟩
          ·rw [if_neg c14] at H
           exact absurd H (by simp)
         ·rw [if_neg c13] at H
          have c13b0:decide (x6_2<(((iR l1 x5_1).f0).length:Int))=false:=decide_eq_false c13
          clear c13
          replace H:=Option.bind_eq_some_iff.mp H
          obtain ⟨t198,A180,H⟩:=H
          replace H:(stratumref07_Facts.l0 k2 t198 l1 (wrap64 (x5_1+1)))=some r:=H
          have A18:=iC.mk A180
          clear A180
          have H':=iC.mk H
          clear H
          have p191:0≤(x5_1:Int):=of_decide_eq_true asm_
          have q191:x5_1<(l1.length:Int):=of_decide_eq_true asm_
          obtain ⟨ad191,A191_0,c191_0,e191,hx191_0,hx191_1,hl191_0,hi191_0⟩:=kU (Kd.C_kept_now HR1.out HK.out) x5_1 p191 q191
          obtain rfl:ad187=ad191:=(by injection e191)
          have HR191_0:=iC.mk hi191_0
          have HC191_0:=iC.mk hl191_0
          clear hi191_0 hl191_0
          replace p191:=eq_true p191
          replace q191:=eq_true q191
          have p197:0≤(x5_1:Int):=of_decide_eq_true asm_
          have q197:x5_1<(l1.length:Int):=of_decide_eq_true asm_
          obtain ⟨ad197,A197_0,c197_0,e197,hx197_0,hx197_1,hl197_0,hi197_0⟩:=kU (Kd.C_kept_now HR1.out HK.out) x5_1 p197 q197
          obtain rfl:ad187=ad197:=(by injection e197)
          have HR197_0:=iC.mk hi197_0
          have HC197_0:=iC.mk hl197_0
          clear hi197_0 hl197_0
          replace p197:=eq_true p197
          replace q197:=eq_true q197
          have ea_:=Option.some.inj (hx191_0.symm.trans hx197_0)
          injection ea_ with ea_ en_ ec_
          subst ea_
          subst ec_
          clear en_
          obtain ⟨Ao19,co19,eo19⟩:=Kd.R_slice HO_0.out
          subst eo19
          go_wp2_with (first | ((with_reducible refine oU (f:=72) rfl ?_);refine L9 (some 55) rfl rfl Tryz.func72 (by kernel_rfl) rfl #[.slice Ao19 x0_2.length co19,.int .u64 (IntKind.u64.wrap ((iR l1 x5_1).f1)),.int .i64 8] rfl (by (try simp only [List.map_toArray,List.map_cons,List.map_nil]);first | done | rfl | (simp only [List.length_drop,List.length_take];rfl)) ?_;(with_reducible refine (stratumref07_Put.calls k2 (fun k_=>some k_=(.slice Ao19 x0_2.length co19:Value).ownBlock) (.slice Ao19 x0_2.length co19) x0_2 (IntKind.u64.wrap ((iR l1 x5_1).f1)) 8 t198 w0 _ ?side1 ?side2 A18.out).mono ?_);(case side1=>repeat (first | (with_reducible first | exact HB.out | apply iD | apply iF | apply iQ) | exact HB.out));(case side2=>exact Kd.R_tight rfl HO_0.out);rintro e w20 ⟨v199,rfl,ho0,hb,hkp⟩;refine ⟨_,rfl,?_⟩;have n0_:=iC.mk (Kd.R_mono (ok':=fun k_=>(P0_ k_∨w.heap.size≤k_)) ho0 (fun k_ hk_=>Or.elim hk_ (fun hs_=>(HO_0.out.1 k_ (hs_).symm)) (fun hn_=>(.inr (Nat.le_trans (by first | exact HK.out.1 | exact (show Kept w _ (fun k_=>P0_ k_) from by repeat (first | (with_reducible first | exact HK.out | apply Kept.alloc | apply Kept.drewN | apply Kept.drew) | exact HK.out)).1) hn_)))));have n1_:=iC.mk (Kept.then_ (S:=(fun k_=>P0_ k_)) (by repeat (first | (with_reducible first | exact HK.out | apply Kept.alloc | apply Kept.drewN | apply Kept.drew) | exact HK.out)) hkp (fun k_ hs_=>(fun e_=>(HO_0.out.1 k_ e_.symm)) hs_));have n2_:=iC.mk (hb);clear HK;clear HB;clear HO_0;have HO200:=n0_;have HK:=n1_;have HB:=n2_;clear n0_ n1_ n2_;(try clear hb);(try clear hkp);(try clear ho0)))
          go_roundg k2
          case measure=>have:=HK1.out;have:=HK2.out;omega
          case rel=>exact ⟨(t198),(wrap64 (x5_1+1)),(by first | rfl | (simp;done) | (simp [*];done)),H',⟨by have:=HK1.out;have:=HK2.out;omega⟩,⟨by (with_reducible repeat (first | apply Kd.R_alloc | apply Kd.R_drewN | apply Kd.R_drew));exact HO200.out⟩,⟨by repeat (first | (with_reducible first | exact HK.out | apply Kept.alloc | apply Kept.drewN | apply Kept.drew) | exact HK.out)⟩,⟨hb_⟩⟩
        ·rw [if_neg c12] at H
         exact absurd H (by simp)
       ·rw [if_neg c11] at H
        exact absurd H (by simp)
    ·rw [if_neg c7] at H
     exact absurd H (by simp)
   ·rw [if_neg c6] at H
    have c6b0:decide (x5_1<(l1.length:Int))=false:=decide_eq_false c6
    clear c6
    obtain rfl:=Option.some.inj H
    go_wp2
    go_ret
    exact ⟨_,by first | rfl | (simp [jF,jG] <;> rfl) | (simp [*,jF,jG] <;> rfl),by (with_reducible repeat (first | apply Kd.R_alloc | apply Kd.R_drewN | apply Kd.R_drew));exact HO_0.out,hb_,by repeat (first | (with_reducible first | exact HK.out | apply Kept.alloc | apply Kept.drewN | apply Kept.drew) | exact HK.out)⟩
end Go.Proofs.YtgfkgppomaapiaaGreatDoor.K
end
namespace Go.Proofs.YtgfkgppomaapiaaGreatDoor.K
open RowKit YtgfkgppomaapiaaGreatDoorW.PrintWords YtgfkgppomaapiaaGreatDoorW.PrintLast YtgfkgppomaapiaaGreatDoorW.PrintMore My
section
theorem wrap_u64 (x:Int):IntKind.u64.wrap x=x % 18446744073709551616:=by rfl
theorem j06 (x:Int) (m:Nat) (hm:m<8):(shr .u64 (IntKind.u64.wrap x) (8 * (m:Int))) % 256=(x / 256 ^ m) % 256:=by
 rw [wrap_u64]
 have h:m=0∨m=1∨m=2∨m=3∨m=4∨m=5∨m=6∨m=7:=by omega
 unfold shr
 rw [show IntKind.u64.bits=64 from rfl]
 rcases h with rfl | rfl | rfl | rfl | rfl | rfl | rfl | rfl <;> simp <;> omega
theorem nums_append (l m:List UInt8):nums (l ++ m)=nums l ++ nums m:=List.map_append ..
theorem Y0 (b:UInt8) (l:List UInt8):nums (b :: l)=(b.toNat:Int) :: nums l:=rfl
theorem jo7 (v:Int):((UInt8.ofNat (v % 256).toNat).toNat:Int)=v % 256:=by
 rw [UInt8.toNat_ofNat']
 omega
theorem XO (x:Int):∀ (n:Nat) (l:List Int),n≤8→l.length+n≤140737488355328→Ev (fun k=>stratumref07_Put.l0 k l (IntKind.u64.wrap x) ((n:Int) - 1)) (l ++ nums (layB x n))
 | 0,l,_,_=>by
  refine Ev.step (f:=fun _=>some l) (fun k=>by simp only [stratumref07_Put.l0];rw [if_neg (by omega)]) ?_
  simp only [layB,nums,List.map_nil,List.append_nil]
  exact Ev.now _
 | n+1,l,hn,hl=>by
  have e1:((n+1:Nat):Int) - 1=n:=by omega
  have e2:IntKind.u64.wrap ((n:Nat):Int)=n:=by rw [wrap_u64];omega
  have e3:IntKind.u64.wrap (8 * (n:Int))=8 * n:=by rw [wrap_u64];omega
  have e4:wrap64 ((n:Int) - 1)=n - 1:=by unfold wrap64;omega
  rw [e1,layB,Y0,jo7]
  refine Ev.step (f:=fun k=>stratumref07_Put.l0 k (l ++ [x / 256 ^ n % 256]) (IntKind.u64.wrap x) ((n:Int) - 1)) (fun k=>by simp only [stratumref07_Put.l0];rw [if_pos (by omega),e2,e3,if_pos (by omega),if_pos (by omega),j06 x n (by omega),e4]) ?_
  have:=XO x n (l ++ [x / 256 ^ n % 256]) (by omega) (by rw [List.length_append];simp only [List.length_cons,List.length_nil];omega)
  rw [List.append_assoc] at this
  exact this
theorem IW (x:Int) (n:Nat) (l:List Int) (hn:n≤8) (hl:l.length+n≤140737488355328):Ev (fun k=>stratumref07_Put.f k l (IntKind.u64.wrap x) (n:Int)) (l ++ nums (layB x n)):=by
 unfold stratumref07_Put.f
 rw [show wrap64 ((n:Int) - 1)=n - 1 from by unfold wrap64;omega]
 exact XO x n l hn hl
theorem UK (l1:List Int) (hn:l1.length≤9223372036854775807) (d:Nat):∀ (i:Int) (l:List Int),0≤i→i≤l1.length→(l1.length:Int) - i=d→l.length+d≤140737488355328→Ev (fun k=>stratumref07_Nodes.l0 k l l1 i) (l ++ nums ((l1.drop i.toNat).flatMap (layB · 1))):=by
 induction d with
 | zero =>
  intro i l h0 h1 hd hl
  rw [drop_end _ i (by omega)]
  refine Ev.step (f:=fun _=>some l) (fun k=>by simp only [stratumref07_Nodes.l0];rw [if_neg (by omega)]) ?_
  simp only [List.flatMap_nil,nums,List.map_nil,List.append_nil]
  exact Ev.now _
 | succ d ih =>
  intro i l h0 h1 hd hl
  have hlt:i<(l1.length:Int):=by omega
  rw [uN 0 l1 i (by omega) h0,List.flatMap_cons,nums_append,← List.append_assoc]
  refine Ev.step (f:=fun k=>(stratumref07_Put.f k l (IntKind.u64.wrap (rd l1 i)) 1).bind fun t=>stratumref07_Nodes.l0 k t l1 (i+1)) (fun k=>by simp only [stratumref07_Nodes.l0];rw [if_pos hlt,if_pos h0,oK h0 hlt hn]) ?_
  exact Ev.bind (IW (rd l1 i) 1 l (by omega) (by omega)) (ih (i+1) _ (by omega) (by omega) (by omega) (by rw [List.length_append,jM,iM];omega))
theorem WE (l1:List Int) (l:List Int) (hl:l.length+(nJ l1).length≤140737488355328):Ev (fun k=>stratumref07_Nodes.f k l l1) (l ++ nums (nJ l1)):=by
 have hlen:(nJ l1).length=1+l1.length:=by
  unfold nJ
  rw [List.length_append,iM]
  congr 1
  induction l1 with
  | nil=>rfl
  | cons x l ih=>rw [List.flatMap_cons,List.length_append,iM,List.length_cons];have:=ih (by rw [show (nJ l).length=1+(l.flatMap (layB · 1)).length from by unfold nJ;rw [List.length_append,iM]];rw [show (nJ (x :: l)).length=1+(1+(l.flatMap (layB · 1)).length) from by unfold nJ;rw [List.length_append,iM,List.flatMap_cons,List.length_append,iM]] at hl;omega);omega
 unfold nJ
 rw [nums_append,← List.append_assoc]
 exact Ev.bind (IW (l1.length:Int) 1 l (by omega) (by omega)) (UK l1 (by omega) l1.length 0 _ (by omega) (by omega) (by omega) (by rw [List.length_append,jM,iM];omega))
theorem ja3 (l1:List jQ) (i:Int) (h0:0≤i) (hlt:i<l1.length) (hn:l1.length≤9223372036854775807) (hk:(iR l1 i).f0.length≤9223372036854775807) (R:List Int)
  (m:Nat) (hR:∀ l:List Int,l.length+m≤140737488355328→Ev (fun k=>stratumref07_Facts.l0 k l l1 (i+1)) (l ++ R)) (d:Nat):∀ (j:Int) (l:List Int),0≤j→j≤(iR l1 i).f0.length→((iR l1 i).f0.length:Int) - j=d→l.length+4 * d+8+m≤140737488355328 →
  Ev (fun k=>stratumref07_Facts.l1 k l l1 i j) (l ++ nums (((iR l1 i).f0.drop j.toNat).flatMap (layB · 4)) ++ nums (layB (iR l1 i).f1 8) ++ R):=by
 induction d with
 | zero =>
  intro j l g0 g1 hd hl
  rw [drop_end _ j (by omega)]
  refine Ev.step (f:=fun k=>(stratumref07_Put.f k l (IntKind.u64.wrap (iR l1 i).f1) 8).bind fun t=>stratumref07_Facts.l0 k t l1 (i+1)) (fun k=>by simp only [stratumref07_Facts.l1];rw [if_pos h0,if_pos hlt,if_neg (by omega),oK h0 hlt hn]) ?_
  simp only [List.flatMap_nil,nums,List.map_nil,List.append_nil]
  exact Ev.bind (IW _ 8 l (by omega) (by omega)) (hR _ (by rw [List.length_append,jM,iM];omega))
 | succ d ih =>
  intro j l g0 g1 hd hl
  have hj:j<((iR l1 i).f0.length:Int):=by omega
  rw [uN 0 _ j (by omega) g0,List.flatMap_cons,nums_append,← List.append_assoc l]
  refine Ev.step (f:=fun k=>(stratumref07_Put.f k l (IntKind.u64.wrap (rd (iR l1 i).f0 j)) 4).bind fun t=>stratumref07_Facts.l1 k t l1 i (j+1)) (fun k=>by simp only [stratumref07_Facts.l1];rw [if_pos h0,if_pos hlt,if_pos hj,if_pos g0,oK g0 hj hk]) ?_
  exact Ev.bind (IW _ 4 l (by omega) (by omega)) (ih (j+1) _ (by omega) (by omega) (by omega) (by rw [List.length_append,jM,iM];omega))
theorem UQ (l1:List jQ) (hn:l1.length≤9223372036854775807) (hk:∀ f∈l1,f.f0.length≤9223372036854775807) (d:Nat):∀ (i:Int) (l:List Int),0≤i→i≤l1.length→(l1.length:Int) - i=d→l.length+((l1.drop i.toNat).flatMap oO).length≤140737488355328 →
  Ev (fun k=>stratumref07_Facts.l0 k l l1 i) (l ++ nums ((l1.drop i.toNat).flatMap oO)):=by
 induction d with
 | zero =>
  intro i l h0 h1 hd hl
  rw [drop_end _ i (by omega)]
  refine Ev.step (f:=fun _=>some l) (fun k=>by simp only [stratumref07_Facts.l0];rw [if_neg (by omega)]) ?_
  simp only [List.flatMap_nil,nums,List.map_nil,List.append_nil]
  exact Ev.now _
 | succ d ih =>
  intro i l h0 h1 hd hl
  have hlt:i<(l1.length:Int):=by omega
  have hm:iR l1 i∈l1:=by
   unfold iR
   rw [List.getD_eq_getElem?_getD,List.getElem?_eq_getElem (show i.toNat<l1.length by omega)]
   exact List.getElem_mem _
  rw [uN z149 l1 i (by omega) h0,List.flatMap_cons,show l1.getD i.toNat z149=iR l1 i from rfl] at hl ⊢
  rw [List.length_append,xC] at hl
  rw [nums_append]
  refine Ev.step (f:=fun k=>(stratumref07_Put.f k l (IntKind.u64.wrap ((iR l1 i).f0.length:Int)) 1).bind fun t=>stratumref07_Facts.l1 k t l1 i 0) (fun k=>by simp only [stratumref07_Facts.l0];rw [if_pos hlt,if_pos h0]) ?_
  have hr:=ja3 l1 i h0 hlt hn (hk _ hm) (nums ((l1.drop (i+1).toNat).flatMap oO)) ((l1.drop (i+1).toNat).flatMap oO).length (fun t ht=>ih (i+1) t (by omega) (by omega) (by omega) ht) (iR l1 i).f0.length 0 (l ++ nums (layB ((iR l1 i).f0.length:Int) 1)) (by omega) (by omega) (by omega) (by rw [List.length_append,jM,iM];omega)
  have e:l ++ (nums (oO (iR l1 i)) ++ nums ((l1.drop (i+1).toNat).flatMap oO))=l ++ nums (layB ((iR l1 i).f0.length:Int) 1) ++ nums (((iR l1 i).f0.drop (0:Int).toNat).flatMap (layB · 4)) ++ nums (layB (iR l1 i).f1 8) ++ nums ((l1.drop (i+1).toNat).flatMap oO):=by
   unfold oO
   rw [nums_append,nums_append]
   simp only [List.append_assoc]
   rfl
  rw [e]
  exact Ev.bind (IW _ 1 l (by omega) (by omega)) hr
theorem YE (l1:List jQ):(kP l1).length=4+(l1.flatMap oO).length:=by unfold kP;rw [List.length_append,iM]
theorem jg3 (l1:List jQ):9 * l1.length≤(l1.flatMap oO).length∧∀ f∈l1,4 * f.f0.length≤(l1.flatMap oO).length:=by
 induction l1 with
 | nil=>exact ⟨by simp,fun f h=>by cases h⟩
 | cons x l ih =>
  rw [List.flatMap_cons,List.length_append,xC,List.length_cons]
  refine ⟨by omega,fun f hf=>?_⟩
  rcases List.mem_cons.1 hf with rfl | hf
  ·omega
  ·have:=ih.2 f hf;omega
theorem IJ (l1:List jQ) (l:List Int) (hl:l.length+(kP l1).length≤140737488355328):Ev (fun k=>stratumref07_Facts.f k l l1) (l ++ nums (kP l1)):=by
 rw [YE] at hl
 have hg:=jg3 l1
 unfold kP
 rw [nums_append,← List.append_assoc]
 exact Ev.bind (IW (l1.length:Int) 4 l (by omega) (by omega)) (UQ l1 (by omega) (fun f hf=>by have:=hg.2 f hf;omega) l1.length 0 _ (by omega) (by omega) (by omega) (by rw [List.length_append,jM,iM];show _+(l1.flatMap oO).length≤_;omega))
end
section
def LV (P0:Nat→Prop) (r:List Int) (w0 w:World) (e:Ending) (w':World):Prop :=
 ∃ v':Value,e=.returned v'∧Kd.R (Kd.int .u8) 5 w' w0.heap.size (fun k=>P0 k∨w.heap.size≤k) v' r∧Below w0.heap.size w0 w'∧Kept w w' P0
theorem lU (P0:Nat→Prop) (v:Value) (l:List Int) (x X:Int) (n:Nat) (nI:Int) (w0 w:World) (hX:X=IntKind.u64.wrap x) (hI:nI=n) (hn:n≤8) (hl:l.length+n≤140737488355328) (hB:Below w0.heap.size w0 w) (ho:Kd.R (Kd.int .u8) 5 w w0.heap.size P0 v l) :
  Calls Tryz.prog 72 #[v,.int .u64 X,.int .i64 nI] w (LV P0 (l ++ nums (layB x n)) w0 w):=by
 subst hI;subst hX
 obtain ⟨k,hk⟩:=(IW x n l hn hl).rounds
 exact stratumref07_Put.calls k P0 v l _ _ _ w0 w hB ho hk
theorem JC (P0:Nat→Prop) (v:Value) (l:List Int) (A1:Option Addr) (c1:Nat) (l1:List Int) (w0 w:World) (hl:l.length+(nJ l1).length≤140737488355328) (hB:Below w0.heap.size w0 w) (ho:Kd.R (Kd.int .u8) 5 w w0.heap.size P0 v l) (hr1:∀ W_,Kept w W_ (fun k_=>P0 k_)→Kd.C (Kd.int .i64) W_ A1 l1.length l1) (hc1:l1.length≤c1) :
  Calls Tryz.prog 73 #[v,.slice A1 l1.length c1] w (LV P0 (l ++ nums (nJ l1)) w0 w):=by
 obtain ⟨k,hk⟩:=(WE l1 l hl).rounds
 exact stratumref07_Nodes.calls k P0 v l A1 c1 l1 _ w0 w hB ho hr1 hc1 hk
theorem JI (P0:Nat→Prop) (v:Value) (l:List Int) (A1:Option Addr) (c1:Nat) (l1:List jQ) (w0 w:World) (hl:l.length+(kP l1).length≤140737488355328) (hB:Below w0.heap.size w0 w) (ho:Kd.R (Kd.int .u8) 5 w w0.heap.size P0 v l) (hr1:∀ W_,Kept w W_ (fun k_=>P0 k_)→Kd.C k149 W_ A1 l1.length l1) (hc1:l1.length≤c1) :
  Calls Tryz.prog 74 #[v,.slice A1 l1.length c1] w (LV P0 (l ++ nums (kP l1)) w0 w):=by
 obtain ⟨k,hk⟩:=(IJ l1 l hl).rounds
 exact stratumref07_Facts.calls k P0 v l A1 c1 l1 _ w0 w hB ho hr1 hc1 hk
theorem LD (l:List jJ) (k:Nat) (h:k<l.length):(l.take (k+1)).flatMap lV=(l.take k).flatMap lV ++ (layB (iK l k).f0 4 ++ kP (iK l k).f1):=by
 rw [kW z114 l k h,List.flatMap_append]
 congr 1
 simp only [List.flatMap_cons,List.flatMap_nil,List.append_nil]
 rfl
theorem WG (l:List jJ) (k:Nat) (h:k<l.length):((l.take k).flatMap lV).length+4+(kP (iK l k).f1).length≤(l.flatMap lV).length:=by
 have e:l=l.take (k+1) ++ l.drop (k+1):=(List.take_append_drop _ _).symm
 conv=>rhs;rw [e]
 rw [List.flatMap_append,LD l k h]
 simp only [List.length_append,iM]
 omega
theorem zB (l:List jJ):(jZ l).length=4+(l.flatMap lV).length:=by unfold jZ;rw [List.length_append,iM]
theorem PK (l:List jJ):l.length≤(jZ l).length:=by
 rw [zB]
 induction l with
 | nil=>simp
 | cons e l ih =>
  rw [List.flatMap_cons,List.length_append,List.length_cons]
  have:4≤(lV e).length:=by unfold lV;rw [List.length_append,iM];omega
  omega
set_option maxRecDepth 20000 in
set_option maxHeartbeats 4000000 in
theorem yV (P0:Nat→Prop) (v:Value) (l0:List Int) (A1:Option Addr) (c1:Nat) (l1:List jJ) (w0 w:World) (hl:l0.length+(jZ l1).length≤140737488355328) (hB:Below w0.heap.size w0 w) (ho:Kd.R (Kd.int .u8) 5 w w0.heap.size P0 v l0) (hP:∀ k,P0 k→w0.heap.size≤k) (hr1:Kd.C k114 w0 A1 l1.length l1) (hc1:l1.length≤c1) :
  Calls Tryz.prog 75 #[v,.slice A1 l1.length c1] w (LV P0 (l0 ++ nums (jZ l1)) w0 w):=by
 have HO:=iC.mk (show Kd.R (Kd.int .u8) 5 w w0.heap.size (fun k=>P0 k∨w.heap.size≤k) v l0 from Kd.R_mono ho (fun _ h=>.inl h))
 have HR:=iC.mk hr1
 have HP:=iC.mk (show ∀ k,(P0 k∨w.heap.size≤k)→w0.heap.size≤k from fun k h=>h.elim (hP k) (Nat.le_trans hB.size))
 have HB:=iC.mk hB
 have HL:=iC.mk hl
 have HK:=iC.mk (Kept.refl w P0)
 have hge:=PK l1
 have hmax:l1.length≤140737488355328:=by omega
 rw [zB] at hl
 clear hr1 hB ho hge hP
 obtain ⟨Ao,co,rfl⟩:=Kd.R_slice HO.out
 go_enter Tryz.func75,Tryz.ntmps75
 go_wp2_with fail
 refine (lU _ _ l0 (l1.length:Int) _ 4 4 w0 _ (by rw [wrap_u64];omega) rfl (by omega) (by omega) HB.out HO.out).mono ?_
 rintro e w1 ⟨v1,rfl,ho1,hb1,hk1⟩
 have HO1:=iC.mk (Kd.R_mono (ok':=fun k=>P0 k∨w.heap.size≤k) ho1 (fun k h=>h.elim id .inr))
 have HB1:=iC.mk hb1
 have HK1:=iC.mk (HK.out.then_ hk1 (fun _ h=>h))
 clear ho1 hb1 hk1
 go_wp2_with fail
 go_loopg [0,5] l1.length (fun gg s0 s5 wr=>∃ k:Nat,k≤l1.length∧l1.length - k≤gg∧s5=.int .i64 k∧iC (Kd.R (Kd.int .u8) 5 wr w0.heap.size (fun k=>P0 k∨w.heap.size≤k) s0 (l0 ++ nums (layB (l1.length:Int) 4) ++ nums ((l1.take k).flatMap lV)))∧iC (Below w0.heap.size w0 wr)∧iC (Kept w wr P0))
 case atStart=>exact ⟨0,Nat.zero_le _,by omega,rfl,⟨by simpa [nums] using HO1.out⟩,HB1,HK1⟩
 case round =>
  clear HO1 HB1 HK1 HO HB HK
  obtain ⟨k,hk,hg,rfl,HO,HB,HK⟩:=hrel
  obtain ⟨Ao,co,rfl⟩:=Kd.R_slice HO.out
  by_cases hlt:k<l1.length
  ·have hln:=WG l1 k hlt
   have HT:=iC.mk (LD l1 k hlt)
   obtain ⟨L,hL⟩:∃ L,L=l0 ++ nums (layB (l1.length:Int) 4) ++ nums ((l1.take k).flatMap lV):=⟨_,rfl⟩
   have hLl:L.length+4+(kP (iK l1 k).f1).length≤140737488355328:=by rw [hL];simp only [List.length_append,jM,iM];omega
   rw [← hL] at HO ⊢
   have HLq:=iC.mk hL
   clear hL hln
   obtain ⟨ad,A',c',eA,gx0,gx1,hl',hC'⟩:=kN HR.out k (by omega) (by omega)
   cases eA
   simp only [Int.toNat_natCast] at gx0 gx1
   have hx0:=kE HB.out gx0
   have hx1:=kE HB.out gx1
   have HC':=iC.mk hC'
   have HG:=iC.mk (And.intro gx0 gx1)
   clear hC' gx0 gx1
   have hcall:=lU (fun k=>P0 k∨w.heap.size≤k) (.slice Ao L.length co) L (iK l1 k).f0 (IntKind.u64.wrap (iK l1 k).f0) 4 4 w0 wr rfl rfl (by omega) (by omega) HB.out HO.out
   go_wp2_with fail
   go_at_call 72
   (with_reducible refine hcall.mono ?_)
   clear hcall
   rintro e w2 ⟨v2,rfl,ho2,hb2,hk2⟩
   have HO2:=iC.mk (Kd.R_mono (ok':=fun k=>P0 k∨w.heap.size≤k) ho2 (fun k h=>h.elim id (fun h=>.inr (Nat.le_trans HK.out.1 h))))
   have HB2:=iC.mk hb2
   have HK2:=iC.mk (HK.out.then_ hk2 (fun _ h=>h))
   clear ho2 hb2 hk2 hx0 hx1
   have hx0:=kE HB2.out HG.out.1
   have hx1:=kE HB2.out HG.out.2
   obtain ⟨Ao2,co2,rfl⟩:=Kd.R_slice HO2.out
   have hlen2:(L ++ nums (layB (iK l1 k).f0 4)).length+(kP (iK l1 k).f1).length≤140737488355328:=by rw [List.length_append,jM,iM];omega
   have HE:=iC.mk (show (L ++ nums (layB (iK l1 k).f0 4)) ++ nums (kP (iK l1 k).f1)=l0 ++ nums (layB (l1.length:Int) 4) ++ nums ((l1.take (k+1)).flatMap lV) from by rw [HT.out,HLq.out,nums_append,nums_append];simp only [List.append_assoc])
   generalize (L ++ nums (layB (iK l1 k).f0 4))=L2 at *
   have hcall:=JI (fun k=>P0 k∨w.heap.size≤k) (.slice Ao2 L2.length co2) L2 A' c' (iK l1 k).f1 w0 w2 hlen2 HB2.out HO2.out (Kd.C_kept_came uJ HC'.out HB2.out HP.out) hl'
   go_wp2_with fail
   go_at_call 74
   (with_reducible refine hcall.mono ?_)
   clear hcall
   rintro e w3 ⟨v3,rfl,ho3,hb3,hk3⟩
   have HO3:=iC.mk (Kd.R_mono (ok':=fun k=>P0 k∨w.heap.size≤k) ho3 (fun k h=>h.elim id (fun h=>.inr (Nat.le_trans HK2.out.1 h))))
   have HB3:=iC.mk hb3
   have HK3:=iC.mk (HK2.out.then_ hk3 (fun _ h=>h))
   clear ho3 hb3 hk3 hx0 hx1
   go_wp2_with fail
   go_roundg (l1.length - (k+1))
   case measure=>omega
   case rel=>exact ⟨k+1,by omega,by omega,by go_num,⟨by rw [← HE.out];exact HO3.out⟩,HB3,HK3⟩
  ·have:k=l1.length:=by omega
   subst this
   have HE:=iC.mk (show l0 ++ nums (layB (l1.length:Int) 4) ++ nums ((l1.take l1.length).flatMap lV)=l0 ++ nums (jZ l1) from by rw [List.take_length,List.append_assoc,← nums_append];rfl)
   go_wp2
   go_ret
   exact ⟨_,rfl,by rw [← HE.out];exact HO.out,HB.out,HK.out⟩
def stratumref07_Entries.f (l0:List Int) (l1:List jJ):Option (List Int):=if l0=[]∧(jZ l1).length≤140737488355328 then some (nums (jZ l1)) else none
theorem stratumref07_Entries.calls0 (A1:Option Addr) (c1:Nat) (l1:List jJ) (r:List Int) (w:World) (_hr0:Kd.C (Kd.int .u8) w none ([]:List Int).length []) (_hc0:0≤0) (hr1:Kd.C k114 w A1 l1.length l1) (hc1:l1.length≤c1) (h:stratumref07_Entries.f ([]:List Int) l1=some r) :
  Calls Tryz.prog 75 #[.slice none 0 0,.slice A1 l1.length c1] w fun e w'=>∃ v0_:Value,e=.returned (v0_)∧Kd.R (Kd.int .u8) 5 w' w.heap.size (fun _=>True) v0_ r∧Below w.heap.size w w':=by
 unfold stratumref07_Entries.f at h
 split at h
 case isFalse=>cases h
 rename_i hl
 obtain rfl:=Option.some.inj h
 refine (yV (fun _=>False) (.slice none 0 0) [] A1 c1 l1 w w (by simpa using hl.2) (Below.refl _ _) (Kd.R_nil _ _ _ _ _) (fun _ h=>h.elim) hr1 hc1).mono ?_
 rintro e w' ⟨v',rfl,h1,h2,_⟩
 exact ⟨v',rfl,Kd.R_mono h1 (fun _ _=>trivial),h2⟩
end
end Go.Proofs.YtgfkgppomaapiaaGreatDoor.K
section
namespace Go.Proofs.YtgfkgppomaapiaaGreatDoor.K
open RowKit YtgfkgppomaapiaaGreatDoorW.PrintWords YtgfkgppomaapiaaGreatDoorW.PrintLast YtgfkgppomaapiaaGreatDoorW.PrintMore My
theorem RD {w:World} {A4 A9:Option Addr} {l3:List Int} {l4:List jQ} {l6:List kC} {l9:List jJ} {A3 A6:Option Addr} (h3:Kd.C (Kd.int .i64) w A3 l3.length l3) (h4:Kd.C k149 w A4 l4.length l4) (h6:Kd.C k122 w A6 l6.length l6) (h9:Kd.C k114 w A9 l9.length l9):jd9 l3 l4 l6 l9:=by
 have key:∀ {A:Option Addr} {l:List jQ},Kd.C k149 w A l.length l→∀ f∈l,f.f0.length≤9223372036854775807:=by
  intro A l h f hf
  obtain ⟨i,hi,rfl⟩:=List.getElem_of_mem hf
  obtain ⟨_,_,_,_,_,_,_,hC⟩:=kU h i (by omega) (by omega)
  have e:iR l i=l[i]:=by unfold iR;rw [Int.toNat_natCast,List.getD_eq_getElem?_getD,List.getElem?_eq_getElem hi];rfl
  rw [e] at hC
  exact lD hC
 refine ⟨lD h3,lD h4,key h4,lD h6,lD h9,fun e he=>?_⟩
 obtain ⟨i,hi,rfl⟩:=List.getElem_of_mem he
 obtain ⟨_,_,_,_,_,_,_,hC⟩:=kN h9 i (by omega) (by omega)
 have e:iK l9 i=l9[i]:=by unfold iK;rw [Int.toNat_natCast,List.getD_eq_getElem?_getD,List.getElem?_eq_getElem hi];rfl
 rw [e] at hC
 exact ⟨lD hC,key hC⟩
section
variable (a0 a1 a2:Int) (A3:Option Addr) (c3:Nat) (l3:List Int) (A4:Option Addr) (c4:Nat) (l4:List jQ) (a5:Int) (A6:Option Addr) (c6:Nat) (l6:List kC) (a7 a8:Int) (A9:Option Addr) (c9:Nat) (l9:List jJ) (w:World)
set_option maxRecDepth 20000 in
set_option maxHeartbeats 8000000 in
theorem nH (h3:Kd.C (Kd.int .i64) w A3 l3.length l3) (d3:l3.length≤c3) (h4:Kd.C k149 w A4 l4.length l4) (d4:l4.length≤c4) (h6:Kd.C k122 w A6 l6.length l6) (d6:l6.length≤c6) (h9:Kd.C k114 w A9 l9.length l9) (d9:l9.length≤c9) :
  Calls Tryz.prog 71 #[.agg #[.int .u8 a0,.int .u32 a1,.int .u32 a2,.slice A3 l3.length c3,.slice A4 l4.length c4,.int .u32 a5,.slice A6 l6.length c6,.int .i64 a7,.int .i64 a8,.slice A9 l9.length c9]] w fun e w'=>e=.returned (.bool (jR ⟨a0,a1,a2,l3,l4,⟨a5,l6⟩,a7,a8,l9⟩))∧Below w.heap.size w w':=by
 have hrl:=RD h3 h4 h6 h9
 obtain ⟨W,hW⟩:∃ W,W=w.alloc (.cells #[.int .u8 a0,.int .u32 a1,.int .u32 a2,.slice A3 l3.length c3,.slice A4 l4.length c4,.int .u32 a5,.slice A6 l6.length c6,.int .i64 a7,.int .i64 a8,.slice A9 l9.length c9] 54):=⟨_,rfl⟩
 have hb:Below w.heap.size w W:=by rw [hW];exact iD (Below.refl _ _) _
 have HX:=iC.mk (show W.heap[w.heap.size]? = some (.cells #[.int .u8 a0,.int .u32 a1,.int .u32 a2,.slice A3 l3.length c3,.slice A4 l4.length c4,.int .u32 a5,.slice A6 l6.length c6,.int .i64 a7,.int .i64 a8,.slice A9 l9.length c9] 54 (0,0)) from by rw [hW];exact iP rfl)
 have H3:=iC.mk (Kd.C_below h3 hb)
 have H4:=iC.mk (Kd.C_below h4 hb)
 have H6:=iC.mk (Kd.C_below h6 hb)
 have H9:=iC.mk (Kd.C_below h9 hb)
 have HB:=iC.mk hb
 have HW:=iC.mk hW
 clear h3 h4 h6 h9 hb hW
 have hbare:=fun s r h=>stratumref07_bare.calls a0 a1 a2 A3 c3 l3 A4 c4 l4 a5 A6 c6 l6 a7 a8 A9 c9 l9 s r W H3.out d3 H4.out d4 H6.out d6 H9.out d9 h
 have e1:=uK a0 a1 a2 l3 l4 a5 l6 a7 a8 l9 [73,78,70] (by decide)
 have e2:=uK a0 a1 a2 l3 l4 a5 l6 a7 a8 l9 [73,65,78] (by decide)
 have e3:=uK a0 a1 a2 l3 l4 a5 l6 a7 a8 l9 [73] (by decide)
 have e4:=uK a0 a1 a2 l3 l4 a5 l6 a7 a8 l9 [77] (by decide)
 have e5:=uK a0 a1 a2 l3 l4 a5 l6 a7 a8 l9 [73,82] (by decide)
 have b1:zJ a1 a2 l3 l4 a5 l6 a7 a8 l9 [73,78,70]=(a2 == 0 && (a5 == 0 && l6.isEmpty) && (a7 == 0 && a8 == 0 && l9.isEmpty)):=by unfold zJ flag;rw [lenb,lenb,lenb,lenb];simp
 have b2:zJ a1 a2 l3 l4 a5 l6 a7 a8 l9 [73,65,78]=(l4.isEmpty && (a5 == 0 && l6.isEmpty) && (a7 == 0 && a8 == 0 && l9.isEmpty)):=by unfold zJ flag;rw [lenb,lenb,lenb,lenb];simp
 have b3:zJ a1 a2 l3 l4 a5 l6 a7 a8 l9 [73]=(a2 == 0 && l3.isEmpty && l4.isEmpty && (a5 == 0 && l6.isEmpty) && (a7 == 0 && a8 == 0 && l9.isEmpty)):=by unfold zJ flag;rw [lenb,lenb,lenb,lenb];simp
 have b4:zJ a1 a2 l3 l4 a5 l6 a7 a8 l9 [77]=(a1 == 0 && a2 == 0 && l3.isEmpty && l4.isEmpty && (a7 == 0 && a8 == 0 && l9.isEmpty)):=by unfold zJ flag;rw [lenb,lenb,lenb,lenb];simp
 have b5:zJ a1 a2 l3 l4 a5 l6 a7 a8 l9 [73,82]=(a2 == 0 && l3.isEmpty && l4.isEmpty && (a5 == 0 && l6.isEmpty)):=by unfold zJ flag;rw [lenb,lenb,lenb,lenb];simp
 rw [b1] at e1;rw [b2] at e2;rw [b3] at e3;rw [b4] at e4;rw [b5] at e5
 clear b1 b2 b3 b4 b5
 have n3:=LZ l3 hrl.n3
 have n4:=xP l4 hrl.n4 hrl.f4
 have n6:=VX l6 hrl.n6
 have n9:=zY l9 hrl.n9 hrl.f9
 obtain ⟨k3,g3⟩:=n3.rounds
 obtain ⟨k4,g4⟩:=n4.rounds
 obtain ⟨k6,g6⟩:=n6.rounds
 obtain ⟨k9,g9⟩:=n9.rounds
 have q3:=iC.mk (fun w2 (hb:Below W.heap.size W w2)=>stratumref07_SoundNodes.calls k3 A3 c3 l3 _ w2 (Kd.C_below H3.out hb) d3 g3)
 have q4:=iC.mk (fun w2 (hb:Below W.heap.size W w2)=>stratumref07_SoundFacts.calls k4 A4 c4 l4 _ w2 (Kd.C_below H4.out hb) d4 g4)
 have q6:=iC.mk (fun w2 (hb:Below W.heap.size W w2)=>stratumref07_spans.calls k6 A6 c6 l6 _ w2 (Kd.C_below H6.out hb) d6 g6)
 have q9:=iC.mk (fun w2 (hb:Below W.heap.size W w2)=>stratumref07_SoundEntries.calls k9 A9 c9 l9 _ w2 (Kd.C_below H9.out hb) d9 g9)
 clear n3 n4 n6 n9 g3 g4 g6 g9 hrl H3 H4 H6 H9
 by_cases h1:a0=1
 ·have hs:jR ⟨a0,a1,a2,l3,l4,⟨a5,l6⟩,a7,a8,l9⟩=((a2 == 0 && (a5 == 0 && l6.isEmpty) && (a7 == 0 && a8 == 0 && l9.isEmpty)) && (nK (-1) l3 && mO l4)):=by
   unfold jR
   simp only [h1,if_true]
   rw [Bool.eq_iff_iff]
   simp only [Bool.and_eq_true]
   constructor <;> (intro h;simp only [h,and_self])
  rw [hs]
  clear hs
  subst h1
  have hcall:=hbare _ _ e1
  clear hbare e1 e2 e3 e4 e5
  generalize (a2 == 0 && (a5 == 0 && l6.isEmpty) && (a7 == 0 && a8 == 0 && l9.isEmpty))=B at hcall ⊢
  generalize nK (-1) l3=N at q3 ⊢
  generalize mO l4=F at q4 ⊢
  go_enter Tryz.func71,Tryz.ntmps71
  go_upto_region 1 with fail
  rw [← HW.out]
  clear HW
  obtain ⟨wz0,wz1,wz2,wz3,wz4,wz5,wz6,wz7,wz8,wz9,wy0,wy1,wy2,wy3,wy4,wy5,wy6,wy7,wy8,wy9⟩:=ten (HX.out)
  clear wy0 wy1 wy2 wy3 wy4 wy5 wy6 wy7 wy8 wy9
  go_wp2_with fail
  go_at_call 101
  refine hcall.mono ?_
  rintro e w1 ⟨rfl,hb1⟩
  have HB1:=iC.mk hb1
  clear hcall hb1 wz0 wz1 wz2 wz3 wz4 wz5 wz6 wz7 wz8 wz9
  cases B with
  | false =>
   go_wp2
   go_ret
   exact ⟨rfl,iH HB.out HB1.out⟩
  | true =>
   have hcall:=q3.out w1 HB1.out
   obtain ⟨wz0,wz1,wz2,wz3,wz4,wz5,wz6,wz7,wz8,wz9,wy0,wy1,wy2,wy3,wy4,wy5,wy6,wy7,wy8,wy9⟩:=ten (iI HB1.out HX.out)
   clear wy0 wy1 wy2 wy3 wy4 wy5 wy6 wy7 wy8 wy9
   go_wp2_with fail
   go_at_call 102
   refine hcall.mono ?_
   rintro e w2 ⟨rfl,hd⟩
   have HB2:=iC.mk (iH HB1.out hd.below)
   clear hcall hd wz0 wz1 wz2 wz3 wz4 wz5 wz6 wz7 wz8 wz9
   cases N with
   | false =>
    go_wp2
    go_ret
    exact ⟨rfl,iH HB.out HB2.out⟩
   | true =>
    have hcall:=q4.out w2 HB2.out
    obtain ⟨wz0,wz1,wz2,wz3,wz4,wz5,wz6,wz7,wz8,wz9,wy0,wy1,wy2,wy3,wy4,wy5,wy6,wy7,wy8,wy9⟩:=ten (iI HB2.out HX.out)
    clear wy0 wy1 wy2 wy3 wy4 wy5 wy6 wy7 wy8 wy9
    go_wp2_with fail
    go_at_call 103
    refine hcall.mono ?_
    rintro e w3 ⟨rfl,hd⟩
    have HB3:=iC.mk (iH HB2.out hd.below)
    clear hcall hd wz0 wz1 wz2 wz3 wz4 wz5 wz6 wz7 wz8 wz9
    go_wp2
    go_ret
    exact ⟨by simp,iH HB.out HB3.out⟩
 by_cases h2:a0=2
 ·have hs:jR ⟨a0,a1,a2,l3,l4,⟨a5,l6⟩,a7,a8,l9⟩=((l4.isEmpty && (a5 == 0 && l6.isEmpty) && (a7 == 0 && a8 == 0 && l9.isEmpty)) && nK (-1) l3):=by
   unfold jR
   simp only [h2,if_true,if_false,show ¬ (2:Int)=1 from by decide]
   rw [Bool.eq_iff_iff]
   simp only [Bool.and_eq_true]
   constructor <;> (intro h;simp only [h,and_self])
  rw [hs]
  clear hs
  subst h2
  have hcall:=hbare _ _ e2
  clear hbare e1 e2 e3 e4 e5
  generalize (l4.isEmpty && (a5 == 0 && l6.isEmpty) && (a7 == 0 && a8 == 0 && l9.isEmpty))=B at hcall ⊢
  generalize nK (-1) l3=N at q3 ⊢
  go_enter Tryz.func71,Tryz.ntmps71
  go_upto_region 1 with fail
  rw [← HW.out]
  clear HW
  obtain ⟨wz0,wz1,wz2,wz3,wz4,wz5,wz6,wz7,wz8,wz9,wy0,wy1,wy2,wy3,wy4,wy5,wy6,wy7,wy8,wy9⟩:=ten (HX.out)
  clear wy0 wy1 wy2 wy3 wy4 wy5 wy6 wy7 wy8 wy9
  go_wp2_with fail
  go_at_call 101
  refine hcall.mono ?_
  rintro e w1 ⟨rfl,hb1⟩
  have HB1:=iC.mk hb1
  clear hcall hb1 wz0 wz1 wz2 wz3 wz4 wz5 wz6 wz7 wz8 wz9
  cases B with
  | false =>
   go_wp2
   go_ret
   exact ⟨rfl,iH HB.out HB1.out⟩
  | true =>
   have hcall:=q3.out w1 HB1.out
   obtain ⟨wz0,wz1,wz2,wz3,wz4,wz5,wz6,wz7,wz8,wz9,wy0,wy1,wy2,wy3,wy4,wy5,wy6,wy7,wy8,wy9⟩:=ten (iI HB1.out HX.out)
   clear wy0 wy1 wy2 wy3 wy4 wy5 wy6 wy7 wy8 wy9
   go_wp2_with fail
   go_at_call 102
   refine hcall.mono ?_
   rintro e w2 ⟨rfl,hd⟩
   have HB2:=iC.mk (iH HB1.out hd.below)
   clear hcall hd wz0 wz1 wz2 wz3 wz4 wz5 wz6 wz7 wz8 wz9
   go_wp2
   go_ret
   exact ⟨by simp,iH HB.out HB2.out⟩
 by_cases h3:a0=3∨a0=4∨a0=5
 ·have hs:jR ⟨a0,a1,a2,l3,l4,⟨a5,l6⟩,a7,a8,l9⟩=(a2 == 0 && l3.isEmpty && l4.isEmpty && (a5 == 0 && l6.isEmpty) && (a7 == 0 && a8 == 0 && l9.isEmpty)):=by
   have hd:(decide (a0=3) || decide (a0=4) || decide (a0=5))=true:=by simp;omega
   unfold jR
   simp only [h1,h2,hd,if_true,if_false]
   rw [Bool.eq_iff_iff]
   simp only [Bool.and_eq_true]
   constructor <;> (intro h;simp only [h,and_self])
  rw [hs]
  clear hs
  have hcall:=hbare _ _ e3
  clear hbare e1 e2 e3 e4 e5
  generalize (a2 == 0 && l3.isEmpty && l4.isEmpty && (a5 == 0 && l6.isEmpty) && (a7 == 0 && a8 == 0 && l9.isEmpty))=B at hcall ⊢
  rcases h3 with rfl | rfl | rfl
  all_goals
   go_enter Tryz.func71,Tryz.ntmps71
   go_upto_region 1 with fail
   rw [← HW.out]
   clear HW
   obtain ⟨wz0,wz1,wz2,wz3,wz4,wz5,wz6,wz7,wz8,wz9,wy0,wy1,wy2,wy3,wy4,wy5,wy6,wy7,wy8,wy9⟩:=ten (HX.out)
   clear wy0 wy1 wy2 wy3 wy4 wy5 wy6 wy7 wy8 wy9
   go_wp2_with fail
   go_at_call 101
   refine hcall.mono ?_
   rintro e w1 ⟨rfl,hb1⟩
   have HB1:=iC.mk hb1
   clear hcall hb1 wz0 wz1 wz2 wz3 wz4 wz5 wz6 wz7 wz8 wz9
   go_wp2
   go_ret
   exact ⟨rfl,iH HB.out HB1.out⟩
 have hd:(decide (a0=3) || decide (a0=4) || decide (a0=5))=false:=by simp;omega
 by_cases h6:a0=6
 ·have hs:jR ⟨a0,a1,a2,l3,l4,⟨a5,l6⟩,a7,a8,l9⟩=((a1 == 0 && a2 == 0 && l3.isEmpty && l4.isEmpty && (a7 == 0 && a8 == 0 && l9.isEmpty)) && (l6.all mZ && decide ((l6.length:Int)≤40))):=by
   unfold jR
   simp only [h1,h2,hd,h6,if_true,if_false,Bool.false_eq_true]
   rw [show decide ((l6.length:Int)≤40)=decide (l6.length≤40) from by rw [decide_eq_decide];omega]
   simp only [show ¬ (6:Int)=1 from by decide,show ¬ (6:Int)=2 from by decide,if_false,show (decide ((6:Int)=3) || decide ((6:Int)=4) || decide ((6:Int)=5))=false from by decide,Bool.false_eq_true]
   rw [Bool.eq_iff_iff]
   simp only [Bool.and_eq_true]
   constructor <;> (intro h;simp only [h,and_self])
  rw [hs]
  clear hs hd
  subst h6
  have hcall:=hbare _ _ e4
  clear hbare e1 e2 e3 e4 e5
  generalize (a1 == 0 && a2 == 0 && l3.isEmpty && l4.isEmpty && (a7 == 0 && a8 == 0 && l9.isEmpty))=B at hcall ⊢
  generalize (l6.all mZ && decide ((l6.length:Int)≤40))=N at q6 ⊢
  go_enter Tryz.func71,Tryz.ntmps71
  go_upto_region 1 with fail
  rw [← HW.out]
  clear HW
  obtain ⟨wz0,wz1,wz2,wz3,wz4,wz5,wz6,wz7,wz8,wz9,wy0,wy1,wy2,wy3,wy4,wy5,wy6,wy7,wy8,wy9⟩:=ten (HX.out)
  clear wy0 wy1 wy2 wy3 wy4 wy5 wy6 wy7 wy8 wy9
  go_wp2_with fail
  go_at_call 101
  refine hcall.mono ?_
  rintro e w1 ⟨rfl,hb1⟩
  have HB1:=iC.mk hb1
  clear hcall hb1 wz0 wz1 wz2 wz3 wz4 wz5 wz6 wz7 wz8 wz9
  cases B with
  | false =>
   go_wp2
   go_ret
   exact ⟨rfl,iH HB.out HB1.out⟩
  | true =>
   have hcall:=q6.out w1 HB1.out
   obtain ⟨wz0,wz1,wz2,wz3,wz4,wz5,wz6,wz7,wz8,wz9,wy0,wy1,wy2,wy3,wy4,wy5,wy6,wy7,wy8,wy9⟩:=ten (iI HB1.out HX.out)
   clear wy0 wy1 wy2 wy3 wy4 wy5 wy6 wy7 wy8 wy9
   go_wp2_with fail
   go_at_call 104
   refine hcall.mono ?_
   rintro e w2 ⟨rfl,hd⟩
   have HB2:=iC.mk (iH HB1.out hd.below)
   clear hcall hd wz0 wz1 wz2 wz3 wz4 wz5 wz6 wz7 wz8 wz9
   go_wp2
   go_ret
   exact ⟨by simp,iH HB.out HB2.out⟩
 by_cases h7:a0=7
 ·have hs:jR ⟨a0,a1,a2,l3,l4,⟨a5,l6⟩,a7,a8,l9⟩=((a2 == 0 && l3.isEmpty && l4.isEmpty && (a5 == 0 && l6.isEmpty)) && ((oN l9 && decide ((l9.length:Int)≤5000)) && (decide (0≤a7) && decide (a7≤10000) && decide (0≤a8) && decide (a8≤10000)))):=by
   unfold jR
   simp only [h7,if_true,if_false,show ¬ (7:Int)=1 from by decide,show ¬ (7:Int)=2 from by decide,show ¬ (7:Int)=6 from by decide,show (decide ((7:Int)=3) || decide ((7:Int)=4) || decide ((7:Int)=5))=false from by decide,Bool.false_eq_true]
   rw [show decide ((l9.length:Int)≤5000)=decide (l9.length≤5000) from by rw [decide_eq_decide];omega]
   rw [Bool.eq_iff_iff]
   simp only [Bool.and_eq_true]
   constructor <;> (intro h;simp only [h,and_self])
  rw [hs]
  clear hs hd
  subst h7
  have hcall:=hbare _ _ e5
  clear hbare e1 e2 e3 e4 e5
  generalize (a2 == 0 && l3.isEmpty && l4.isEmpty && (a5 == 0 && l6.isEmpty))=B at hcall ⊢
  generalize (oN l9 && decide ((l9.length:Int)≤5000))=N at q9 ⊢
  go_enter Tryz.func71,Tryz.ntmps71
  go_upto_region 1 with fail
  rw [← HW.out]
  clear HW
  obtain ⟨wz0,wz1,wz2,wz3,wz4,wz5,wz6,wz7,wz8,wz9,wy0,wy1,wy2,wy3,wy4,wy5,wy6,wy7,wy8,wy9⟩:=ten (HX.out)
  clear wy0 wy1 wy2 wy3 wy4 wy5 wy6 wy7 wy8 wy9
  go_wp2_with fail
  go_at_call 101
  refine hcall.mono ?_
  rintro e w1 ⟨rfl,hb1⟩
  have HB1:=iC.mk hb1
  clear hcall hb1 wz0 wz1 wz2 wz3 wz4 wz5 wz6 wz7 wz8 wz9
  cases B with
  | false =>
   go_wp2
   go_ret
   exact ⟨rfl,iH HB.out HB1.out⟩
  | true =>
   have hcall:=q9.out w1 HB1.out
   obtain ⟨wz0,wz1,wz2,wz3,wz4,wz5,wz6,wz7,wz8,wz9,wy0,wy1,wy2,wy3,wy4,wy5,wy6,wy7,wy8,wy9⟩:=ten (iI HB1.out HX.out)
   clear wy0 wy1 wy2 wy3 wy4 wy5 wy6 wy7 wy8 wy9
   go_wp2_with fail
   go_at_call 105
   refine hcall.mono ?_
   rintro e w2 ⟨rfl,hd⟩
   have HB2:=iC.mk (iH HB1.out hd.below)
   clear hcall hd wz0 wz1 wz2 wz3 wz4 wz5 wz6 wz7 wz8 wz9
   cases N with
   | false =>
    go_wp2
    go_ret
    exact ⟨rfl,iH HB.out HB2.out⟩
   | true =>
    obtain ⟨wz0,wz1,wz2,wz3,wz4,wz5,wz6,wz7,wz8,wz9,wy0,wy1,wy2,wy3,wy4,wy5,wy6,wy7,wy8,wy9⟩:=ten (iI HB2.out HX.out)
    clear wy0 wy1 wy2 wy3 wy4 wy5 wy6 wy7 wy8 wy9
    by_cases p1:0≤a7
    ·by_cases p2:a7≤10000
     ·by_cases p3:0≤a8
      ·by_cases p4:a8≤10000
       ·go_wp2
        go_ret
        exact ⟨by simp [p1,p2,p3,p4],iH HB.out HB2.out⟩
       ·go_wp2
        go_ret
        exact ⟨by simp [p1,p2,p3,p4] <;> omega,iH HB.out HB2.out⟩
      ·go_wp2
       go_ret
       exact ⟨by simp [p1,p2,p3] <;> omega,iH HB.out HB2.out⟩
     ·go_wp2
      go_ret
      exact ⟨by simp [p1,p2] <;> omega,iH HB.out HB2.out⟩
    ·go_wp2
     go_ret
     exact ⟨by simp [p1] <;> omega,iH HB.out HB2.out⟩
 ·have hs:jR ⟨a0,a1,a2,l3,l4,⟨a5,l6⟩,a7,a8,l9⟩=false:=by
   unfold jR
   simp only [h1,h2,hd,h6,h7,if_false,Bool.false_eq_true]
  rw [hs]
  clear hs hd hbare e1 e2 e3 e4 e5
  have p3:¬ a0=3:=by omega
  have p4:¬ a0=4:=by omega
  have p5:¬ a0=5:=by omega
  clear h3
  go_enter Tryz.func71,Tryz.ntmps71
  go_upto_region 1 with fail
  rw [← HW.out]
  clear HW
  obtain ⟨wz0,wz1,wz2,wz3,wz4,wz5,wz6,wz7,wz8,wz9,wy0,wy1,wy2,wy3,wy4,wy5,wy6,wy7,wy8,wy9⟩:=ten (HX.out)
  clear wy0 wy1 wy2 wy3 wy4 wy5 wy6 wy7 wy8 wy9
  go_wp2
  go_ret
  exact ⟨rfl,HB.out⟩
end
end Go.Proofs.YtgfkgppomaapiaaGreatDoor.K
end
