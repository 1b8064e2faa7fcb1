import Derived.Test.YtgfmiladfeoldaaGreatDoorPk1
set_option linter.unusedSimpArgs false
set_option linter.unusedVariables false
set_option maxRecDepth 100000
set_option maxHeartbeats 16000000
namespace Go.Proofs.YtgfmiladfeoldaaGreatDoor
open Go.RowKit LexP
theorem Qjc {a b:Int}(h:a=b):Ending.returned (.int .i64 a)=.returned (.int .i64 b):=by rw[h]
theorem Qvt (r:Nat)(h:r<128):
  decide (0<=Lib.indexByte [43,45,42,94,39,40,41,91,93,123,125,44,59,58,61] (r:Int).toNat.toUInt8)=decide (r.toUInt8∈([43,45,42,94,39,40,41,91,93,123,125,44,59,58,61]:Qx)):=by
 have:∀r:Fin 128,decide (0<=Lib.indexByte [43,45,42,94,39,40,41,91,93,123,125,44,59,58,61] ((r.val:Nat):Int).toNat.toUInt8)=decide (r.val.toUInt8∈([43,45,42,94,39,40,41,91,93,123,125,44,59,58,61]:Qx)):=by decide+kernel
 exact this ⟨r,h⟩
theorem Hh (r:Nat)(w:World)(hr:r<=0x10FFFF):
  Calls Tryz.prog 200 #[.int .i32 (r:Int)] w fun e w'=>e=.returned (.int .i64 (kindOf r:Nat))/\w=w':=by
 by_cases h1:r=32\/r=9\/r=0xa0
 ·have hk:kindOf r=1:=by unfold kindOf;rw[if_pos h1]
  rw[hk];clear hk;rcases h1 with rfl|rfl|rfl
  all_goals
   go_enter Tryz.func200,Tryz.ntmps200;go_wp2;go_ret;exact⟨rfl,rfl⟩
 by_cases h2:r=35
 ·subst h2
  go_enter Tryz.func200,Tryz.ntmps200;go_wp2;go_ret;exact⟨rfl,rfl⟩
 have n1:((r:Int)==32)=false:=by simp;omega
 have n2:((r:Int)==9)=false:=by simp;omega
 have n3:((r:Int)==160)=false:=by simp;omega
 have n4:((r:Int)==35)=false:=by simp;omega
 by_cases h3:48<=r/\r<=57
 ·have hk:kindOf r=3:=by unfold kindOf;rw[if_neg h1,if_neg h2,if_pos h3]
  rw[hk];clear hk;go_enter Tryz.func200,Tryz.ntmps200;go_wp2;go_ret;exact⟨rfl,rfl⟩
 by_cases e95:r=95
 ·subst e95
  go_enter Tryz.func200,Tryz.ntmps200;go_wp2;go_ret;exact⟨rfl,rfl⟩
 by_cases e8722:r=0x2212
 ·subst e8722
  go_enter Tryz.func200,Tryz.ntmps200;go_wp2;go_ret;exact⟨rfl,rfl⟩
 by_cases e215:r=0xd7
 ·subst e215
  go_enter Tryz.func200,Tryz.ntmps200;go_wp2;go_ret;exact⟨rfl,rfl⟩
 by_cases e247:r=0xf7
 ·subst e247
  go_enter Tryz.func200,Tryz.ntmps200;go_wp2;go_ret;exact⟨rfl,rfl⟩
 have n6:((r:Int)==95)=false:=by simp;omega
 have n7:((r:Int)==8722)=false:=by simp;omega
 have n8:((r:Int)==215)=false:=by simp;omega
 have n9:((r:Int) !=247)=true:=by simp;omega
 have K:kindOf r=if (97<=r/\r<=122)\/(65<=r/\r<=90) then 4 else if (0xc0<=r/\r<=0x2af)\/(0x370<=r/\r<=0x3ff) then 4
   else if r<0x80/\(r.toUInt8∈([43,45,42,94,39,40,41,91,93,123,125,44,59,58,61]:Qx)) then 5 else 6:=by
  unfold kindOf;rw[if_neg h1,if_neg h2,if_neg h3];simp only[e95,e8722,e215,e247,or_false,if_false,ne_eq,not_false_eq_true,and_true]
 have G:(r<48\/58<=r/\r<65\/91<=r/\r<97\/123<=r/\r<128)\/(65<=r/\r<=90\/97<=r/\r<=122)\/(128<=r/\r<0xc0\/0x2af<r/\r<0x370\/0x3ff<r)\/(0xc0<=r/\r<=0x2af\/0x370<=r/\r<=0x3ff):=by omega
 rcases G with G|G|G|G
 ·have h6:r<128:=by omega
  have K5:(decide (r.toUInt8∈([43,45,42,94,39,40,41,91,93,123,125,44,59,58,61]:Qx)))=(decide (kindOf r=5)):=by
   rw[K,if_neg (by omega),if_neg (by omega)];by_cases hm:r.toUInt8∈([43,45,42,94,39,40,41,91,93,123,125,44,59,58,61]:Qx)
   ·rw[if_pos ⟨by omega,hm⟩];simp[hm]
   ·rw[if_neg (by simp[hm])];simp[hm]
  have K6:kindOf r=5\/kindOf r=6:=by
   rw[K,if_neg (by omega),if_neg (by omega)];split<;>simp
  have M:=zq (Qvt r h6);rw[K5]at M;clear K K5;generalize kindOf r=k at*;rcases K6 with rfl|rfl
  all_goals
   rcases G with G|G|G|G
   all_goals
    clear h1 h2 h3 e95 e8722 e215 e247;go_enter Tryz.func200,Tryz.ntmps200;go_wp2_with (go_at_call 231;refine(Tryz.strings_ContainsRune_ascii _ _ _ (by omega) (by omega)).mono ?_;rintro e w' ⟨rfl,rfl⟩;rw[M.o]);go_ret;exact⟨rfl,rfl⟩
 ·rw[K,if_pos (by omega)]
  clear K;rcases G with G|G
  all_goals
   clear h1 h2 h3 e95 e8722 e215 e247;go_enter Tryz.func200,Tryz.ntmps200;go_wp2;go_ret;exact⟨rfl,rfl⟩
 ·rw[K,if_neg (by omega),if_neg (by omega),if_neg (by omega)]
  clear K;rcases G with G|G|G
  all_goals
   clear h1 h2 h3 e95 e8722 e215 e247;go_enter Tryz.func200,Tryz.ntmps200;go_wp2;go_ret;exact⟨rfl,rfl⟩
 ·rw[K,if_neg (by omega),if_pos (by omega)]
  clear K;rcases G with G|G
  all_goals
   clear h1 h2 h3 e95 e8722 e215 e247;go_enter Tryz.func200,Tryz.ntmps200;go_wp2;go_ret;exact⟨rfl,rfl⟩
end Go.Proofs.YtgfmiladfeoldaaGreatDoor
