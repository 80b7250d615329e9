import Derived.Test.YtbijlklgbfminaaGreatA02
set_option linter.unusedVariables false
set_option linter.unusedSimpArgs false
namespace Go.Proofs.YtbijlklgbfminaaGreat
section
open Go Go.Kx Go.Proofs Go.Kx.Au Go.Kx.W
theorem QS:Body Tryz.prog 199:=cP Tryz.func199 rfl rfl
theorem QT:Body Tryz.prog 262:=cP Tryz.func262 rfl rfl
theorem QU:Body Tryz.prog 206:=cP Tryz.func206 rfl rfl
theorem QV:Body Tryz.prog 254:=cP Tryz.func254 rfl rfl
theorem QW:Body Tryz.prog 191:=cP Tryz.func191 rfl rfl
theorem QX:Body Tryz.prog 271:=cP Tryz.func271 rfl rfl
theorem QY:Body Tryz.prog 321:=cP Tryz.func321 rfl rfl
theorem QZ:Body Tryz.prog 305:=cP Tryz.func305 rfl rfl
theorem SK:Tryz.prog.stoodInHeld 61=false:=by kernel_rfl
theorem To:Tryz.prog.eqGuardType Tryz.prog.depth 61=false:=by kernel_rfl
instance:IZ Tryz.prog 26 (.agg ([.int .i64 0,.int .i64 0,.int .i64 0]:List Value).toArray):=⟨by unfold bR;kernel_rfl⟩
instance:kU Tryz.prog 26 [(0,1),(1,1),(2,1)]:=⟨⟨_,Tryz.underlying26,rfl,by kernel_rfl⟩⟩
instance:iX Tryz.prog 26 3:=⟨by kernel_rfl⟩
instance:qZ Tryz.prog 26 3:=⟨⟨⟨_,Tryz.underlying26,trivial⟩,by kernel_rfl⟩⟩
instance:bK Tryz.prog 26 0 0:=⟨⟨_,_,1,Tryz.underlying26,rfl,rfl,by kernel_rfl,by decide⟩⟩
instance:jk Tryz.prog 3:=⟨⟨_,Tryz.underlying3,trivial⟩⟩
instance:kU Tryz.prog 188 [(0,3)]:=⟨⟨_,Tryz.underlying188,rfl,by kernel_rfl⟩⟩
instance:IZ Tryz.prog 188 (.agg ([.int .i64 0,.int .i64 0,.int .i64 0]:List Value).toArray):=⟨by unfold bR;kernel_rfl⟩
instance:bK Tryz.prog 26 2 2:=⟨⟨_,_,1,Tryz.underlying26,rfl,rfl,by kernel_rfl,by decide⟩⟩
instance:bK Tryz.prog 26 1 1:=⟨⟨_,_,1,Tryz.underlying26,rfl,rfl,by kernel_rfl,by decide⟩⟩
instance:kU Tryz.prog 191 [(0,1),(1,1),(2,1),(3,1),(4,1),(5,1),(6,1)]:=⟨⟨_,Tryz.underlying191,rfl,by kernel_rfl⟩⟩
instance:IZ Tryz.prog 191 (.agg ([.int .i64 0,.int .i64 0,.int .i64 0,.int .i64 0,.int .i64 0,.int .i64 0,.slice none 0 0]:List Value).toArray):=⟨by unfold bR;kernel_rfl⟩
instance:bK Tryz.prog 188 0 0:=⟨⟨_,_,3,Tryz.underlying188,rfl,rfl,by kernel_rfl,by decide⟩⟩
instance:BZ Tryz.prog 26 0 0 3:=⟨⟨_,_,Tryz.underlying26,rfl,rfl,rfl⟩⟩
instance:SE Tryz.prog:=⟨by kernel_rfl⟩
instance:oe Tryz.prog 84 112 64:=⟨⟨Tryz.underlying84,by kernel_rfl⟩⟩
instance:vG Tryz.prog 112 64:=⟨by unfold fT;kernel_rfl⟩
instance:IZ Tryz.prog 112 (.agg ((List.replicate 64 (.int .u8 0)):List Value).toArray):=⟨by unfold bR;kernel_rfl⟩
instance:oe Tryz.prog 85 4 1:=⟨⟨Tryz.underlying85,by kernel_rfl⟩⟩
instance:vG Tryz.prog 4 1:=⟨by unfold fT;kernel_rfl⟩
instance:IZ Tryz.prog 4 (.bool false):=⟨by unfold bR;kernel_rfl⟩
instance:kU Tryz.prog 88 [(0,1),(1,1),(2,1),(3,1),(4,1),(5,1),(6,1)]:=⟨⟨_,Tryz.underlying88,rfl,by kernel_rfl⟩⟩
instance:IZ Tryz.prog 88 (.agg ([.slice none 0 0,.slice none 0 0,.slice none 0 0,.slice none 0 0,.int .i64 0,.int .i64 0,.bool false]:List Value).toArray):=⟨by unfold bR;kernel_rfl⟩
instance:bK Tryz.prog 88 1 1:=⟨⟨_,_,1,Tryz.underlying88,rfl,rfl,by kernel_rfl,by decide⟩⟩
instance:jk Tryz.prog 84:=⟨⟨_,Tryz.underlying84,trivial⟩⟩
instance:oe Tryz.prog 44 5 1:=⟨⟨Tryz.underlying44,by kernel_rfl⟩⟩
instance:vG Tryz.prog 5 1:=⟨by unfold fT;kernel_rfl⟩
instance:IZ Tryz.prog 5 (.int .u8 0):=⟨by unfold bR;kernel_rfl⟩
instance:bK Tryz.prog 88 6 6:=⟨⟨_,_,1,Tryz.underlying88,rfl,rfl,by kernel_rfl,by decide⟩⟩
instance:jk Tryz.prog 4:=⟨⟨_,Tryz.underlying4,trivial⟩⟩
instance:bK Tryz.prog 88 3 3:=⟨⟨_,_,1,Tryz.underlying88,rfl,rfl,by kernel_rfl,by decide⟩⟩
instance:jk Tryz.prog 85:=⟨⟨_,Tryz.underlying85,trivial⟩⟩
instance:ES Tryz.prog 112 64 5 1:=⟨⟨Tryz.underlying112,by kernel_rfl⟩⟩
instance:IZ Tryz.prog 126 (.agg ([.slice none 0 0,.slice none 0 0]:List Value).toArray):=⟨by unfold bR;kernel_rfl⟩
instance:ES Tryz.prog 126 2 44 1:=⟨⟨Tryz.underlying126,by kernel_rfl⟩⟩
instance:iX Tryz.prog 44 1:=⟨by kernel_rfl⟩
instance:qZ Tryz.prog 126 2:=⟨⟨⟨_,Tryz.underlying126,trivial⟩,by kernel_rfl⟩⟩
instance:iX Tryz.prog 126 2:=⟨by kernel_rfl⟩
instance:kU Tryz.prog 173 [(0,1),(1,1)]:=⟨⟨_,Tryz.underlying173,rfl,by kernel_rfl⟩⟩
instance:IZ Tryz.prog 173 (.agg ([.slice none 0 0,.int .i64 0]:List Value).toArray):=⟨by unfold bR;kernel_rfl⟩
instance:bK Tryz.prog 173 0 0:=⟨⟨_,_,1,Tryz.underlying173,rfl,rfl,by kernel_rfl,by decide⟩⟩
instance:jk Tryz.prog 44:=⟨⟨_,Tryz.underlying44,trivial⟩⟩
instance:bK Tryz.prog 173 1 1:=⟨⟨_,_,1,Tryz.underlying173,rfl,rfl,by kernel_rfl,by decide⟩⟩
instance:iX Tryz.prog 3 1:=⟨by kernel_rfl⟩
instance:jk Tryz.prog 5:=⟨⟨_,Tryz.underlying5,trivial⟩⟩
instance:bK Tryz.prog 130 0 0:=⟨⟨_,_,3,Tryz.underlying130,rfl,rfl,by kernel_rfl,by decide⟩⟩
instance:bK Tryz.prog 130 2 4:=⟨⟨_,_,1,Tryz.underlying130,rfl,rfl,by kernel_rfl,by decide⟩⟩
instance:bK Tryz.prog 130 1 3:=⟨⟨_,_,1,Tryz.underlying130,rfl,rfl,by kernel_rfl,by decide⟩⟩
instance:oe Tryz.prog 23 3 1:=⟨⟨Tryz.underlying23,by kernel_rfl⟩⟩
instance:iX Tryz.prog 5 1:=⟨by kernel_rfl⟩
instance:oe Tryz.prog 192 44 1:=⟨⟨Tryz.underlying192,by kernel_rfl⟩⟩
instance:IZ Tryz.prog 44 (.slice none 0 0):=⟨by unfold bR;kernel_rfl⟩
instance:qZ Tryz.prog 130 5:=⟨⟨⟨_,Tryz.underlying130,trivial⟩,by kernel_rfl⟩⟩
instance:IZ Tryz.prog 3 (.int .i64 0):=⟨by unfold bR;kernel_rfl⟩
instance:IZ Tryz.prog 130 (.agg ([.int .i64 0,.int .i64 0,.int .i64 0,.int .i64 0,.int .i64 0]:List Value).toArray):=⟨by unfold bR;kernel_rfl⟩
instance:kU Tryz.prog 130 [(0,3),(3,1),(4,1)]:=⟨⟨_,Tryz.underlying130,rfl,by kernel_rfl⟩⟩
instance:iX Tryz.prog 130 5:=⟨by kernel_rfl⟩
instance:IZ Tryz.prog 139 (.agg ([.int .i64 0,.int .i64 0,.int .i64 0,.int .i64 0,.int .i64 0,.int .i64 0,.int .i64 0,.int .i64 0,.int .i64 0,.int .i64 0,.int .i64 0,.slice none 0 0,.slice none 0 0,.slice none 0 0]:List Value).toArray):=⟨by unfold bR;kernel_rfl⟩
instance:vG Tryz.prog 3 8:=⟨by unfold fT;kernel_rfl⟩
instance:BZ Tryz.prog 26 1 1 3:=⟨⟨_,_,Tryz.underlying26,rfl,rfl,rfl⟩⟩
instance:oe Tryz.prog 137 201 2:=⟨⟨Tryz.underlying137,by kernel_rfl⟩⟩
instance:vG Tryz.prog 201 16:=⟨by unfold fT;kernel_rfl⟩
instance:IZ Tryz.prog 201 (.agg ([.int .i64 0,.int .i64 0]:List Value).toArray):=⟨by unfold bR;kernel_rfl⟩
instance:bK Tryz.prog 201 0 0:=⟨⟨_,_,1,Tryz.underlying201,rfl,rfl,by kernel_rfl,by decide⟩⟩
instance:kU Tryz.prog 136 [(0,1),(1,1),(2,1),(3,1),(4,1)]:=⟨⟨_,Tryz.underlying136,rfl,by kernel_rfl⟩⟩
instance:IZ Tryz.prog 136 (.agg ([.int .i64 0,.int .i64 0,.int .i64 0,.int .i64 0,.int .i64 0]:List Value).toArray):=⟨by unfold bR;kernel_rfl⟩
instance:kU Tryz.prog 139 [(0,1),(1,1),(2,1),(3,1),(4,1),(5,1),(6,5),(11,1),(12,1),(13,1)]:=⟨⟨_,Tryz.underlying139,rfl,by kernel_rfl⟩⟩
instance:iX Tryz.prog 139 14:=⟨by kernel_rfl⟩
instance:qZ Tryz.prog 139 14:=⟨⟨⟨_,Tryz.underlying139,trivial⟩,by kernel_rfl⟩⟩
instance:bK Tryz.prog 139 2 2:=⟨⟨_,_,1,Tryz.underlying139,rfl,rfl,by kernel_rfl,by decide⟩⟩
instance:bK Tryz.prog 139 0 0:=⟨⟨_,_,1,Tryz.underlying139,rfl,rfl,by kernel_rfl,by decide⟩⟩
instance:bK Tryz.prog 139 5 5:=⟨⟨_,_,1,Tryz.underlying139,rfl,rfl,by kernel_rfl,by decide⟩⟩
instance:bK Tryz.prog 139 4 4:=⟨⟨_,_,1,Tryz.underlying139,rfl,rfl,by kernel_rfl,by decide⟩⟩
instance:bK Tryz.prog 139 3 3:=⟨⟨_,_,1,Tryz.underlying139,rfl,rfl,by kernel_rfl,by decide⟩⟩
instance:bK Tryz.prog 139 1 1:=⟨⟨_,_,1,Tryz.underlying139,rfl,rfl,by kernel_rfl,by decide⟩⟩
instance:bK Tryz.prog 136 0 0:=⟨⟨_,_,1,Tryz.underlying136,rfl,rfl,by kernel_rfl,by decide⟩⟩
instance:bK Tryz.prog 136 3 3:=⟨⟨_,_,1,Tryz.underlying136,rfl,rfl,by kernel_rfl,by decide⟩⟩
instance:bK Tryz.prog 136 4 4:=⟨⟨_,_,1,Tryz.underlying136,rfl,rfl,by kernel_rfl,by decide⟩⟩
instance:bK Tryz.prog 136 2 2:=⟨⟨_,_,1,Tryz.underlying136,rfl,rfl,by kernel_rfl,by decide⟩⟩
instance:bK Tryz.prog 136 1 1:=⟨⟨_,_,1,Tryz.underlying136,rfl,rfl,by kernel_rfl,by decide⟩⟩
instance:bK Tryz.prog 139 9 13:=⟨⟨_,_,1,Tryz.underlying139,rfl,rfl,by kernel_rfl,by decide⟩⟩
instance:jk Tryz.prog 137:=⟨⟨_,Tryz.underlying137,trivial⟩⟩
instance:qZ Tryz.prog 201 2:=⟨⟨⟨_,Tryz.underlying201,trivial⟩,by kernel_rfl⟩⟩
instance:iX Tryz.prog 201 2:=⟨by kernel_rfl⟩
instance:bK Tryz.prog 139 6 6:=⟨⟨_,_,5,Tryz.underlying139,rfl,rfl,by kernel_rfl,by decide⟩⟩
instance:bK Tryz.prog 201 1 1:=⟨⟨_,_,1,Tryz.underlying201,rfl,rfl,by kernel_rfl,by decide⟩⟩
instance:bK Tryz.prog 139 8 12:=⟨⟨_,_,1,Tryz.underlying139,rfl,rfl,by kernel_rfl,by decide⟩⟩
instance:jk Tryz.prog 23:=⟨⟨_,Tryz.underlying23,trivial⟩⟩
instance:bK Tryz.prog 139 7 11:=⟨⟨_,_,1,Tryz.underlying139,rfl,rfl,by kernel_rfl,by decide⟩⟩
instance:qZ Tryz.prog 136 5:=⟨⟨⟨_,Tryz.underlying136,trivial⟩,by kernel_rfl⟩⟩
instance:kU Tryz.prog 144 [(0,1),(1,1)]:=⟨⟨_,Tryz.underlying144,rfl,by kernel_rfl⟩⟩
instance:IZ Tryz.prog 144 (.agg ([.int .i64 0,.slice none 0 0]:List Value).toArray):=⟨by unfold bR;kernel_rfl⟩
instance:oe Tryz.prog 141 144 2:=⟨⟨Tryz.underlying141,by kernel_rfl⟩⟩
instance:vG Tryz.prog 144 32:=⟨by unfold fT;kernel_rfl⟩
instance:oe Tryz.prog 203 141 1:=⟨⟨Tryz.underlying203,by kernel_rfl⟩⟩
instance:jk Tryz.prog 141:=⟨⟨_,Tryz.underlying141,trivial⟩⟩
instance:bK Tryz.prog 88 5 5:=⟨⟨_,_,1,Tryz.underlying88,rfl,rfl,by kernel_rfl,by decide⟩⟩
instance:iX Tryz.prog 4 1:=⟨by kernel_rfl⟩
instance:bK Tryz.prog 88 4 4:=⟨⟨_,_,1,Tryz.underlying88,rfl,rfl,by kernel_rfl,by decide⟩⟩
instance:bK Tryz.prog 88 2 2:=⟨⟨_,_,1,Tryz.underlying88,rfl,rfl,by kernel_rfl,by decide⟩⟩
instance:jk Tryz.prog 86:=⟨⟨_,Tryz.underlying86,trivial⟩⟩
instance:qZ Tryz.prog 112 64:=⟨⟨⟨_,Tryz.underlying112,trivial⟩,by kernel_rfl⟩⟩
instance:kU Tryz.prog 115 [(0,1),(1,64)]:=⟨⟨_,Tryz.underlying115,rfl,by kernel_rfl⟩⟩
instance:IZ Tryz.prog 115 (.agg ([.int .i64 0,.int .u8 0,.int .u8 0,.int .u8 0,.int .u8 0,.int .u8 0,.int .u8 0,.int .u8 0,.int .u8 0,.int .u8 0,.int .u8 0,.int .u8 0,.int .u8 0,.int .u8 0,.int .u8 0,.int .u8 0,.int .u8 0,.int .u8 0,.int .u8 0,.int .u8 0,.int .u8 0,.int .u8 0,.int .u8 0,.int .u8 0,.int .u8 0,.int .u8 0,.int .u8 0,.int .u8 0,.int .u8 0,.int .u8 0,.int .u8 0,.int .u8 0,.int .u8 0,.int .u8 0,.int .u8 0,.int .u8 0,.int .u8 0,.int .u8 0,.int .u8 0,.int .u8 0,.int .u8 0,.int .u8 0,.int .u8 0,.int .u8 0,.int .u8 0,.int .u8 0,.int .u8 0,.int .u8 0,.int .u8 0,.int .u8 0,.int .u8 0,.int .u8 0,.int .u8 0,.int .u8 0,.int .u8 0,.int .u8 0,.int .u8 0,.int .u8 0,.int .u8 0,.int .u8 0,.int .u8 0,.int .u8 0,.int .u8 0,.int .u8 0,.int .u8 0]:List Value).toArray):=⟨by unfold bR;kernel_rfl⟩
instance:oe Tryz.prog 86 115 65:=⟨⟨Tryz.underlying86,by kernel_rfl⟩⟩
instance:vG Tryz.prog 115 72:=⟨by unfold fT;kernel_rfl⟩
instance:iX Tryz.prog 86 1:=⟨by kernel_rfl⟩
instance:iX Tryz.prog 112 64:=⟨by kernel_rfl⟩
instance:IZ Tryz.prog 32 (.int .i64 0):=⟨by unfold bR;kernel_rfl⟩
instance:jk Tryz.prog 31:=⟨⟨_,Tryz.underlying31,trivial⟩⟩
instance:iX Tryz.prog 32 1:=⟨by kernel_rfl⟩
instance:jk Tryz.prog 32:=⟨⟨_,Tryz.underlying32,trivial⟩⟩
instance:qZ Tryz.prog 115 65:=⟨⟨⟨_,Tryz.underlying115,trivial⟩,by kernel_rfl⟩⟩
instance:iX Tryz.prog 115 65:=⟨by kernel_rfl⟩
instance:bK Tryz.prog 88 0 0:=⟨⟨_,_,1,Tryz.underlying88,rfl,rfl,by kernel_rfl,by decide⟩⟩
instance:bK Tryz.prog 115 0 0:=⟨⟨_,_,1,Tryz.underlying115,rfl,rfl,by kernel_rfl,by decide⟩⟩
instance:bK Tryz.prog 115 1 1:=⟨⟨_,_,64,Tryz.underlying115,rfl,rfl,by kernel_rfl,by decide⟩⟩
instance:IZ Tryz.prog 141 (.slice none 0 0):=⟨by unfold bR;kernel_rfl⟩
instance:qZ Tryz.prog 144 2:=⟨⟨⟨_,Tryz.underlying144,trivial⟩,by kernel_rfl⟩⟩
instance:iX Tryz.prog 144 2:=⟨by kernel_rfl⟩
instance:bK Tryz.prog 144 0 0:=⟨⟨_,_,1,Tryz.underlying144,rfl,rfl,by kernel_rfl,by decide⟩⟩
instance:bK Tryz.prog 144 1 1:=⟨⟨_,_,1,Tryz.underlying144,rfl,rfl,by kernel_rfl,by decide⟩⟩
instance:bK Tryz.prog 151 0 0:=⟨⟨_,_,1,Tryz.underlying151,rfl,rfl,by kernel_rfl,by decide⟩⟩
instance:bK Tryz.prog 151 2 2:=⟨⟨_,_,5,Tryz.underlying151,rfl,rfl,by kernel_rfl,by decide⟩⟩
instance:bK Tryz.prog 151 1 1:=⟨⟨_,_,1,Tryz.underlying151,rfl,rfl,by kernel_rfl,by decide⟩⟩
instance:iX Tryz.prog 82 1:=⟨by kernel_rfl⟩
instance:jk Tryz.prog 82:=⟨⟨_,Tryz.underlying82,trivial⟩⟩
instance:bK Tryz.prog 315 0 0:=⟨⟨_,_,1,Tryz.underlying315,rfl,rfl,by kernel_rfl,by decide⟩⟩
instance:jk Tryz.prog 102:=⟨⟨_,Tryz.underlying102,trivial⟩⟩
instance:qZ Tryz.prog 315 1:=⟨⟨⟨_,Tryz.underlying315,trivial⟩,by kernel_rfl⟩⟩
instance:kU Tryz.prog 315 [(0,1)]:=⟨⟨_,Tryz.underlying315,rfl,by kernel_rfl⟩⟩
instance:IZ Tryz.prog 315 (.agg ([.pointer none]:List Value).toArray):=⟨by unfold bR;kernel_rfl⟩
instance:iX Tryz.prog 315 1:=⟨by kernel_rfl⟩
instance:iX Tryz.prog 23 1:=⟨by kernel_rfl⟩
instance:kU Tryz.prog 201 [(0,1),(1,1)]:=⟨⟨_,Tryz.underlying201,rfl,by kernel_rfl⟩⟩
instance:iX Tryz.prog 137 1:=⟨by kernel_rfl⟩
instance:bK Tryz.prog 258 1 1:=⟨⟨_,_,1,Tryz.underlying258,rfl,rfl,by kernel_rfl,by decide⟩⟩
instance:kU Tryz.prog 258 [(0,1),(1,1),(2,1)]:=⟨⟨_,Tryz.underlying258,rfl,by kernel_rfl⟩⟩
instance:IZ Tryz.prog 258 (.agg ([.pointer none,.slice none 0 0,.slice none 0 0]:List Value).toArray):=⟨by unfold bR;kernel_rfl⟩
instance:kU Tryz.prog 308 [(0,1),(1,1),(2,1)]:=⟨⟨_,Tryz.underlying308,rfl,by kernel_rfl⟩⟩
instance:IZ Tryz.prog 308 (.agg ([.slice none 0 0,.int .i64 0,.slice none 0 0]:List Value).toArray):=⟨by unfold bR;kernel_rfl⟩
instance:kU Tryz.prog 262 [(0,1),(1,1)]:=⟨⟨_,Tryz.underlying262,rfl,by kernel_rfl⟩⟩
instance:IZ Tryz.prog 262 (.agg ([.pointer none,.pointer none]:List Value).toArray):=⟨by unfold bR;kernel_rfl⟩
instance:bK Tryz.prog 151 3 7:=⟨⟨_,_,14,Tryz.underlying151,rfl,rfl,by kernel_rfl,by decide⟩⟩
instance:bK Tryz.prog 151 4 21:=⟨⟨_,_,1,Tryz.underlying151,rfl,rfl,by kernel_rfl,by decide⟩⟩
instance:kU Tryz.prog 61 [(0,1),(1,1),(2,1),(3,1),(4,1),(5,1),(6,1),(7,1),(8,1),(9,1)]:=⟨⟨_,Tryz.underlying61,rfl,by kernel_rfl⟩⟩
instance:IZ Tryz.prog 61 (.agg ((List.replicate 10 (.int .i64 0)):List Value).toArray):=⟨by unfold bR;kernel_rfl⟩
instance:bK Tryz.prog 151 7 24:=⟨⟨_,_,10,Tryz.underlying151,rfl,rfl,by kernel_rfl,by decide⟩⟩
instance:iX Tryz.prog 61 10:=⟨by kernel_rfl⟩
instance:bK Tryz.prog 151 5 22:=⟨⟨_,_,1,Tryz.underlying151,rfl,rfl,by kernel_rfl,by decide⟩⟩
instance:iX Tryz.prog 78 1:=⟨by kernel_rfl⟩
instance:bK Tryz.prog 151 6 23:=⟨⟨_,_,1,Tryz.underlying151,rfl,rfl,by kernel_rfl,by decide⟩⟩
instance:iX Tryz.prog 80 1:=⟨by kernel_rfl⟩
instance:bK Tryz.prog 262 1 1:=⟨⟨_,_,1,Tryz.underlying262,rfl,rfl,by kernel_rfl,by decide⟩⟩
instance:jk Tryz.prog 259:=⟨⟨_,Tryz.underlying259,trivial⟩⟩
instance:bK Tryz.prog 262 0 0:=⟨⟨_,_,1,Tryz.underlying262,rfl,rfl,by kernel_rfl,by decide⟩⟩
instance:bK Tryz.prog 308 2 2:=⟨⟨_,_,1,Tryz.underlying308,rfl,rfl,by kernel_rfl,by decide⟩⟩
instance:bK Tryz.prog 308 0 0:=⟨⟨_,_,1,Tryz.underlying308,rfl,rfl,by kernel_rfl,by decide⟩⟩
instance:bK Tryz.prog 308 1 1:=⟨⟨_,_,1,Tryz.underlying308,rfl,rfl,by kernel_rfl,by decide⟩⟩
instance:jk Tryz.prog 149:=⟨⟨_,Tryz.underlying149,trivial⟩⟩
instance:jk Tryz.prog 80:=⟨⟨_,Tryz.underlying80,trivial⟩⟩
instance:kU Tryz.prog 277 [(0,1),(1,1),(2,5),(7,5),(12,1)]:=⟨⟨_,Tryz.underlying277,rfl,by kernel_rfl⟩⟩
instance:IZ Tryz.prog 277 (.agg ([.pointer none,.pointer none,.int .i64 0,.int .i64 0,.int .i64 0,.int .i64 0,.int .i64 0,.int .i64 0,.int .i64 0,.int .i64 0,.int .i64 0,.int .i64 0,.int .i64 0]:List Value).toArray):=⟨by unfold bR;kernel_rfl⟩
instance:kU Tryz.prog 317 [(0,1),(1,1),(2,5),(7,1),(8,5),(13,1)]:=⟨⟨_,Tryz.underlying317,rfl,by kernel_rfl⟩⟩
instance:IZ Tryz.prog 317 (.agg ([.pointer none,.pointer none,.int .i64 0,.int .i64 0,.int .i64 0,.int .i64 0,.int .i64 0,.bool false,.int .i64 0,.int .i64 0,.int .i64 0,.int .i64 0,.int .i64 0,.int .i64 0]:List Value).toArray):=⟨by unfold bR;kernel_rfl⟩
instance:bK Tryz.prog 317 0 0:=⟨⟨_,_,1,Tryz.underlying317,rfl,rfl,by kernel_rfl,by decide⟩⟩
instance:bK Tryz.prog 317 5 13:=⟨⟨_,_,1,Tryz.underlying317,rfl,rfl,by kernel_rfl,by decide⟩⟩
instance:bK Tryz.prog 343 0 0:=⟨⟨_,_,1,Tryz.underlying343,rfl,rfl,by kernel_rfl,by decide⟩⟩
instance:bK Tryz.prog 343 3 3:=⟨⟨_,_,1,Tryz.underlying343,rfl,rfl,by kernel_rfl,by decide⟩⟩
instance:bK Tryz.prog 343 2 2:=⟨⟨_,_,1,Tryz.underlying343,rfl,rfl,by kernel_rfl,by decide⟩⟩
instance:bK Tryz.prog 343 1 1:=⟨⟨_,_,1,Tryz.underlying343,rfl,rfl,by kernel_rfl,by decide⟩⟩
instance:qZ Tryz.prog 343 4:=⟨⟨⟨_,Tryz.underlying343,trivial⟩,by kernel_rfl⟩⟩
instance:IZ Tryz.prog 343 (.agg ([.int .i64 0,.int .i64 0,.int .i64 0,.int .i64 0]:List Value).toArray):=⟨by unfold bR;kernel_rfl⟩
instance:kU Tryz.prog 343 [(0,1),(1,1),(2,1),(3,1)]:=⟨⟨_,Tryz.underlying343,rfl,by kernel_rfl⟩⟩
instance:iX Tryz.prog 343 4:=⟨by kernel_rfl⟩
instance:bK Tryz.prog 317 2 2:=⟨⟨_,_,5,Tryz.underlying317,rfl,rfl,by kernel_rfl,by decide⟩⟩
instance:iX Tryz.prog 136 5:=⟨by kernel_rfl⟩
instance:bK Tryz.prog 317 1 1:=⟨⟨_,_,1,Tryz.underlying317,rfl,rfl,by kernel_rfl,by decide⟩⟩
instance:bK Tryz.prog 317 3 7:=⟨⟨_,_,1,Tryz.underlying317,rfl,rfl,by kernel_rfl,by decide⟩⟩
instance:BZ Tryz.prog 26 2 2 3:=⟨⟨_,_,Tryz.underlying26,rfl,rfl,rfl⟩⟩
instance:bK Tryz.prog 230 1 1:=⟨⟨_,_,1,Tryz.underlying230,rfl,rfl,by kernel_rfl,by decide⟩⟩
instance:bK Tryz.prog 230 0 0:=⟨⟨_,_,1,Tryz.underlying230,rfl,rfl,by kernel_rfl,by decide⟩⟩
instance:bK Tryz.prog 230 3 3:=⟨⟨_,_,1,Tryz.underlying230,rfl,rfl,by kernel_rfl,by decide⟩⟩
instance:bK Tryz.prog 230 2 2:=⟨⟨_,_,1,Tryz.underlying230,rfl,rfl,by kernel_rfl,by decide⟩⟩
instance:oe Tryz.prog 226 230 4:=⟨⟨Tryz.underlying226,by kernel_rfl⟩⟩
instance:qZ Tryz.prog 230 4:=⟨⟨⟨_,Tryz.underlying230,trivial⟩,by kernel_rfl⟩⟩
instance:IZ Tryz.prog 230 (.agg ([.int .i64 0,.int .i64 0,.int .i64 0,.int .i64 0]:List Value).toArray):=⟨by unfold bR;kernel_rfl⟩
instance:iX Tryz.prog 230 4:=⟨by kernel_rfl⟩
instance:vG Tryz.prog 230 32:=⟨by unfold fT;kernel_rfl⟩
instance:bK Tryz.prog 228 0 0:=⟨⟨_,_,1,Tryz.underlying228,rfl,rfl,by kernel_rfl,by decide⟩⟩
instance:bK Tryz.prog 228 3 3:=⟨⟨_,_,1,Tryz.underlying228,rfl,rfl,by kernel_rfl,by decide⟩⟩
instance:jk Tryz.prog 226:=⟨⟨_,Tryz.underlying226,trivial⟩⟩
instance:bK Tryz.prog 228 4 4:=⟨⟨_,_,1,Tryz.underlying228,rfl,rfl,by kernel_rfl,by decide⟩⟩
instance:jk Tryz.prog 192:=⟨⟨_,Tryz.underlying192,trivial⟩⟩
instance:bK Tryz.prog 228 2 2:=⟨⟨_,_,1,Tryz.underlying228,rfl,rfl,by kernel_rfl,by decide⟩⟩
instance:bK Tryz.prog 228 1 1:=⟨⟨_,_,1,Tryz.underlying228,rfl,rfl,by kernel_rfl,by decide⟩⟩
instance:qZ Tryz.prog 228 5:=⟨⟨⟨_,Tryz.underlying228,trivial⟩,by kernel_rfl⟩⟩
instance:vG Tryz.prog 44 24:=⟨by unfold fT;kernel_rfl⟩
instance:IZ Tryz.prog 228 (.agg ([.int .i64 0,.int .i64 0,.int .i64 0,.slice none 0 0,.slice none 0 0]:List Value).toArray):=⟨by unfold bR;kernel_rfl⟩
instance:kU Tryz.prog 228 [(0,1),(1,1),(2,1),(3,1),(4,1)]:=⟨⟨_,Tryz.underlying228,rfl,by kernel_rfl⟩⟩
instance:iX Tryz.prog 228 5:=⟨by kernel_rfl⟩
instance:iX Tryz.prog 226 1:=⟨by kernel_rfl⟩
instance:iX Tryz.prog 192 1:=⟨by kernel_rfl⟩
instance:jk Tryz.prog 279:=⟨⟨_,Tryz.underlying279,trivial⟩⟩
instance:bK Tryz.prog 317 4 8:=⟨⟨_,_,5,Tryz.underlying317,rfl,rfl,by kernel_rfl,by decide⟩⟩
instance:bK Tryz.prog 277 1 1:=⟨⟨_,_,1,Tryz.underlying277,rfl,rfl,by kernel_rfl,by decide⟩⟩
instance:jk Tryz.prog 221:=⟨⟨_,Tryz.underlying221,trivial⟩⟩
instance:bK Tryz.prog 277 2 2:=⟨⟨_,_,5,Tryz.underlying277,rfl,rfl,by kernel_rfl,by decide⟩⟩
instance:bK Tryz.prog 277 3 7:=⟨⟨_,_,5,Tryz.underlying277,rfl,rfl,by kernel_rfl,by decide⟩⟩
instance:bK Tryz.prog 277 4 12:=⟨⟨_,_,1,Tryz.underlying277,rfl,rfl,by kernel_rfl,by decide⟩⟩
instance:jk Tryz.prog 278:=⟨⟨_,Tryz.underlying278,trivial⟩⟩
instance:bK Tryz.prog 277 0 0:=⟨⟨_,_,1,Tryz.underlying277,rfl,rfl,by kernel_rfl,by decide⟩⟩
instance:IZ Tryz.prog 279 (.pointer none):=⟨by unfold bR;kernel_rfl⟩
instance:iX Tryz.prog 279 1:=⟨by kernel_rfl⟩
instance:IZ Tryz.prog 23 (.slice none 0 0):=⟨by unfold bR;kernel_rfl⟩
instance:bK Tryz.prog 61 4 4:=⟨⟨_,_,1,Tryz.underlying61,rfl,rfl,by kernel_rfl,by decide⟩⟩
instance:bK Tryz.prog 61 3 3:=⟨⟨_,_,1,Tryz.underlying61,rfl,rfl,by kernel_rfl,by decide⟩⟩
instance:bK Tryz.prog 258 2 2:=⟨⟨_,_,1,Tryz.underlying258,rfl,rfl,by kernel_rfl,by decide⟩⟩
instance:bK Tryz.prog 61 2 2:=⟨⟨_,_,1,Tryz.underlying61,rfl,rfl,by kernel_rfl,by decide⟩⟩
instance:jk Tryz.prog 78:=⟨⟨_,Tryz.underlying78,trivial⟩⟩
instance:bK Tryz.prog 151 8 34:=⟨⟨_,_,5,Tryz.underlying151,rfl,rfl,by kernel_rfl,by decide⟩⟩
instance:jk Tryz.prog 184:=⟨⟨_,Tryz.underlying184,trivial⟩⟩
instance:bK Tryz.prog 258 0 0:=⟨⟨_,_,1,Tryz.underlying258,rfl,rfl,by kernel_rfl,by decide⟩⟩
instance:kU Tryz.prog 289 [(0,1),(1,1),(2,1),(3,5),(8,1),(9,1)]:=⟨⟨_,Tryz.underlying289,rfl,by kernel_rfl⟩⟩
instance:IZ Tryz.prog 289 (.agg ([.pointer none,.pointer none,.pointer none,.int .i64 0,.int .i64 0,.int .i64 0,.int .i64 0,.int .i64 0,.slice none 0 0,.slice none 0 0]:List Value).toArray):=⟨by unfold bR;kernel_rfl⟩
instance:bK Tryz.prog 61 5 5:=⟨⟨_,_,1,Tryz.underlying61,rfl,rfl,by kernel_rfl,by decide⟩⟩
instance:qZ Tryz.prog 61 10:=⟨⟨⟨_,Tryz.underlying61,trivial⟩,by kernel_rfl⟩⟩
instance:ES Tryz.prog 122 2 23 1:=⟨⟨Tryz.underlying122,by kernel_rfl⟩⟩
instance:IZ Tryz.prog 122 (.agg ([.slice none 0 0,.slice none 0 0]:List Value).toArray):=⟨by unfold bR;kernel_rfl⟩
instance:kU Tryz.prog 124 [(0,1),(1,1),(2,1),(3,1),(4,1),(5,10),(15,1),(16,2)]:=⟨⟨_,Tryz.underlying124,rfl,by kernel_rfl⟩⟩
instance:IZ Tryz.prog 124 (.agg ([.pointer none,.pointer none,.pointer none,.pointer none,.pointer none,.int .i64 0,.int .i64 0,.int .i64 0,.int .i64 0,.int .i64 0,.int .i64 0,.int .i64 0,.int .i64 0,.int .i64 0,.int .i64 0,.int .i64 0,.slice none 0 0,.slice none 0 0]:List Value).toArray):=⟨by unfold bR;kernel_rfl⟩
instance:kU Tryz.prog 151 [(0,1),(1,1),(2,5),(7,14),(21,1),(22,1),(23,1),(24,10),(34,5)]:=⟨⟨_,Tryz.underlying151,rfl,by kernel_rfl⟩⟩
instance:IZ Tryz.prog 151 (.agg ([.pointer none,.pointer none,.int .i64 0,.int .i64 0,.int .i64 0,.int .i64 0,.int .i64 0,.int .i64 0,.int .i64 0,.int .i64 0,.int .i64 0,.int .i64 0,.int .i64 0,.int .i64 0,.int .i64 0,.int .i64 0,.int .i64 0,.int .i64 0,.slice none 0 0,.slice none 0 0,.slice none 0 0,.int .i64 0,.pointer none,.pointer none,.int .i64 0,.int .i64 0,.int .i64 0,.int .i64 0,.int .i64 0,.int .i64 0,.int .i64 0,.int .i64 0,.int .i64 0,.int .i64 0,.int .i64 0,.int .i64 0,.int .i64 0,.int .i64 0,.int .i64 0]:List Value).toArray):=⟨by unfold bR;kernel_rfl⟩
instance:bK Tryz.prog 124 5 5:=⟨⟨_,_,10,Tryz.underlying124,rfl,rfl,by kernel_rfl,by decide⟩⟩
instance:bK Tryz.prog 124 2 2:=⟨⟨_,_,1,Tryz.underlying124,rfl,rfl,by kernel_rfl,by decide⟩⟩
instance:bK Tryz.prog 124 3 3:=⟨⟨_,_,1,Tryz.underlying124,rfl,rfl,by kernel_rfl,by decide⟩⟩
instance:bK Tryz.prog 61 7 7:=⟨⟨_,_,1,Tryz.underlying61,rfl,rfl,by kernel_rfl,by decide⟩⟩
instance:bK Tryz.prog 61 9 9:=⟨⟨_,_,1,Tryz.underlying61,rfl,rfl,by kernel_rfl,by decide⟩⟩
instance:bK Tryz.prog 61 8 8:=⟨⟨_,_,1,Tryz.underlying61,rfl,rfl,by kernel_rfl,by decide⟩⟩
instance:oe Tryz.prog 238 252 6:=⟨⟨Tryz.underlying238,by kernel_rfl⟩⟩
instance:vG Tryz.prog 252 64:=⟨by unfold fT;kernel_rfl⟩
instance:IZ Tryz.prog 252 (.agg ([.int .i64 0,.int .i64 0,.int .i64 0,.int .i64 0,.slice none 0 0,.bool false]:List Value).toArray):=⟨by unfold bR;kernel_rfl⟩
instance:kU Tryz.prog 240 [(0,1),(1,1)]:=⟨⟨_,Tryz.underlying240,rfl,by kernel_rfl⟩⟩
instance:IZ Tryz.prog 240 (.agg ([.slice none 0 0,.int .i64 0]:List Value).toArray):=⟨by unfold bR;kernel_rfl⟩
instance:BZ Tryz.prog 61 3 3 3:=⟨⟨_,_,Tryz.underlying61,rfl,rfl,rfl⟩⟩
instance:kU Tryz.prog 159 [(0,1),(1,1)]:=⟨⟨_,Tryz.underlying159,rfl,by kernel_rfl⟩⟩
instance:IZ Tryz.prog 159 (.agg ([.pointer none,.pointer none]:List Value).toArray):=⟨by unfold bR;kernel_rfl⟩
instance:kU Tryz.prog 97 [(0,1)]:=⟨⟨_,Tryz.underlying97,rfl,by kernel_rfl⟩⟩
instance:IZ Tryz.prog 97 (.agg ([.pointer none]:List Value).toArray):=⟨by unfold bR;kernel_rfl⟩
instance:kU Tryz.prog 194 [(0,1)]:=⟨⟨_,Tryz.underlying194,rfl,by kernel_rfl⟩⟩
instance:IZ Tryz.prog 194 (.agg ([.slice none 0 0]:List Value).toArray):=⟨by unfold bR;kernel_rfl⟩
instance:kU Tryz.prog 109 [(0,1),(1,1),(2,1),(3,1),(4,1),(5,1)]:=⟨⟨_,Tryz.underlying109,rfl,by kernel_rfl⟩⟩
instance:IZ Tryz.prog 109 (.agg ([.int .i64 0,.pointer none,.pointer none,.pointer none,.pointer none,.pointer none]:List Value).toArray):=⟨by unfold bR;kernel_rfl⟩
instance:bK Tryz.prog 109 2 2:=⟨⟨_,_,1,Tryz.underlying109,rfl,rfl,by kernel_rfl,by decide⟩⟩
instance:jk Tryz.prog 37:=⟨⟨_,Tryz.underlying37,trivial⟩⟩
instance:bK Tryz.prog 109 1 1:=⟨⟨_,_,1,Tryz.underlying109,rfl,rfl,by kernel_rfl,by decide⟩⟩
instance:bK Tryz.prog 109 3 3:=⟨⟨_,_,1,Tryz.underlying109,rfl,rfl,by kernel_rfl,by decide⟩⟩
instance:jk Tryz.prog 72:=⟨⟨_,Tryz.underlying72,trivial⟩⟩
instance:bK Tryz.prog 109 4 4:=⟨⟨_,_,1,Tryz.underlying109,rfl,rfl,by kernel_rfl,by decide⟩⟩
instance:jk Tryz.prog 74:=⟨⟨_,Tryz.underlying74,trivial⟩⟩
instance:bK Tryz.prog 109 5 5:=⟨⟨_,_,1,Tryz.underlying109,rfl,rfl,by kernel_rfl,by decide⟩⟩
instance:bK Tryz.prog 97 0 0:=⟨⟨_,_,1,Tryz.underlying97,rfl,rfl,by kernel_rfl,by decide⟩⟩
instance:jk Tryz.prog 94:=⟨⟨_,Tryz.underlying94,trivial⟩⟩
instance:bK Tryz.prog 159 0 0:=⟨⟨_,_,1,Tryz.underlying159,rfl,rfl,by kernel_rfl,by decide⟩⟩
instance:jk Tryz.prog 76:=⟨⟨_,Tryz.underlying76,trivial⟩⟩
instance:bK Tryz.prog 124 1 1:=⟨⟨_,_,1,Tryz.underlying124,rfl,rfl,by kernel_rfl,by decide⟩⟩
instance:IZ Tryz.prog 52 (.agg ([.int .i64 0,.int .i64 0,.int .i64 0,.int .i64 0,.int .i64 0,.int .i64 0,.int .i64 0,.slice none 0 0]:List Value).toArray):=⟨by unfold bR;kernel_rfl⟩
instance:bK Tryz.prog 52 0 0:=⟨⟨_,_,1,Tryz.underlying52,rfl,rfl,by kernel_rfl,by decide⟩⟩
instance:bK Tryz.prog 52 1 1:=⟨⟨_,_,1,Tryz.underlying52,rfl,rfl,by kernel_rfl,by decide⟩⟩
instance:kU Tryz.prog 52 [(0,1),(1,1),(2,1),(3,1),(4,1),(5,1),(6,1),(7,1)]:=⟨⟨_,Tryz.underlying52,rfl,by kernel_rfl⟩⟩
instance:iX Tryz.prog 52 8:=⟨by kernel_rfl⟩
instance:qZ Tryz.prog 52 8:=⟨⟨⟨_,Tryz.underlying52,trivial⟩,by kernel_rfl⟩⟩
instance:bK Tryz.prog 52 7 7:=⟨⟨_,_,1,Tryz.underlying52,rfl,rfl,by kernel_rfl,by decide⟩⟩
instance:bK Tryz.prog 52 6 6:=⟨⟨_,_,1,Tryz.underlying52,rfl,rfl,by kernel_rfl,by decide⟩⟩
instance:bK Tryz.prog 52 5 5:=⟨⟨_,_,1,Tryz.underlying52,rfl,rfl,by kernel_rfl,by decide⟩⟩
instance:bK Tryz.prog 52 4 4:=⟨⟨_,_,1,Tryz.underlying52,rfl,rfl,by kernel_rfl,by decide⟩⟩
instance:bK Tryz.prog 52 3 3:=⟨⟨_,_,1,Tryz.underlying52,rfl,rfl,by kernel_rfl,by decide⟩⟩
instance:bK Tryz.prog 52 2 2:=⟨⟨_,_,1,Tryz.underlying52,rfl,rfl,by kernel_rfl,by decide⟩⟩
instance:bK Tryz.prog 46 0 0:=⟨⟨_,_,1,Tryz.underlying46,rfl,rfl,by kernel_rfl,by decide⟩⟩
instance:bK Tryz.prog 46 1 1:=⟨⟨_,_,1,Tryz.underlying46,rfl,rfl,by kernel_rfl,by decide⟩⟩
instance:bK Tryz.prog 46 2 2:=⟨⟨_,_,1,Tryz.underlying46,rfl,rfl,by kernel_rfl,by decide⟩⟩
instance:bK Tryz.prog 46 3 3:=⟨⟨_,_,1,Tryz.underlying46,rfl,rfl,by kernel_rfl,by decide⟩⟩
instance:bK Tryz.prog 46 4 4:=⟨⟨_,_,1,Tryz.underlying46,rfl,rfl,by kernel_rfl,by decide⟩⟩
instance:bK Tryz.prog 191 3 3:=⟨⟨_,_,1,Tryz.underlying191,rfl,rfl,by kernel_rfl,by decide⟩⟩
instance:bK Tryz.prog 191 5 5:=⟨⟨_,_,1,Tryz.underlying191,rfl,rfl,by kernel_rfl,by decide⟩⟩
instance:bK Tryz.prog 191 6 6:=⟨⟨_,_,1,Tryz.underlying191,rfl,rfl,by kernel_rfl,by decide⟩⟩
instance:jk Tryz.prog 189:=⟨⟨_,Tryz.underlying189,trivial⟩⟩
instance:qZ Tryz.prog 46 5:=⟨⟨⟨_,Tryz.underlying46,trivial⟩,by kernel_rfl⟩⟩
instance:oe Tryz.prog 189 46 5:=⟨⟨Tryz.underlying189,by kernel_rfl⟩⟩
instance:IZ Tryz.prog 46 (.agg ([.int .i64 0,.int .i64 0,.int .i64 0,.int .i64 0,.slice none 0 0]:List Value).toArray):=⟨by unfold bR;kernel_rfl⟩
instance:vG Tryz.prog 46 56:=⟨by unfold fT;kernel_rfl⟩
instance:iX Tryz.prog 189 1:=⟨by kernel_rfl⟩
instance:bK Tryz.prog 191 0 0:=⟨⟨_,_,1,Tryz.underlying191,rfl,rfl,by kernel_rfl,by decide⟩⟩
instance:kU Tryz.prog 46 [(0,1),(1,1),(2,1),(3,1),(4,1)]:=⟨⟨_,Tryz.underlying46,rfl,by kernel_rfl⟩⟩
instance:IZ Tryz.prog 59 (.agg ([.int .i64 0,.int .i64 0]:List Value).toArray):=⟨by unfold bR;kernel_rfl⟩
instance:kU Tryz.prog 59 [(0,1),(1,1)]:=⟨⟨_,Tryz.underlying59,rfl,by kernel_rfl⟩⟩
instance:iX Tryz.prog 59 2:=⟨by kernel_rfl⟩
instance:qZ Tryz.prog 59 2:=⟨⟨⟨_,Tryz.underlying59,trivial⟩,by kernel_rfl⟩⟩
instance:bK Tryz.prog 191 2 2:=⟨⟨_,_,1,Tryz.underlying191,rfl,rfl,by kernel_rfl,by decide⟩⟩
instance:iX Tryz.prog 46 5:=⟨by kernel_rfl⟩
instance:IZ Tryz.prog 192 (.slice none 0 0):=⟨by unfold bR;kernel_rfl⟩
instance:bK Tryz.prog 191 4 4:=⟨⟨_,_,1,Tryz.underlying191,rfl,rfl,by kernel_rfl,by decide⟩⟩
instance:bK Tryz.prog 191 1 1:=⟨⟨_,_,1,Tryz.underlying191,rfl,rfl,by kernel_rfl,by decide⟩⟩
instance:bK Tryz.prog 194 0 0:=⟨⟨_,_,1,Tryz.underlying194,rfl,rfl,by kernel_rfl,by decide⟩⟩
instance:bK Tryz.prog 124 0 0:=⟨⟨_,_,1,Tryz.underlying124,rfl,rfl,by kernel_rfl,by decide⟩⟩
instance:BZ Tryz.prog 61 0 0 3:=⟨⟨_,_,Tryz.underlying61,rfl,rfl,rfl⟩⟩
instance:bK Tryz.prog 240 0 0:=⟨⟨_,_,1,Tryz.underlying240,rfl,rfl,by kernel_rfl,by decide⟩⟩
instance:jk Tryz.prog 238:=⟨⟨_,Tryz.underlying238,trivial⟩⟩
instance:bK Tryz.prog 240 1 1:=⟨⟨_,_,1,Tryz.underlying240,rfl,rfl,by kernel_rfl,by decide⟩⟩
instance:bK Tryz.prog 252 1 5:=⟨⟨_,_,1,Tryz.underlying252,rfl,rfl,by kernel_rfl,by decide⟩⟩
instance:kU Tryz.prog 252 [(0,5),(5,1)]:=⟨⟨_,Tryz.underlying252,rfl,by kernel_rfl⟩⟩
instance:iX Tryz.prog 252 6:=⟨by kernel_rfl⟩
instance:bK Tryz.prog 252 0 0:=⟨⟨_,_,5,Tryz.underlying252,rfl,rfl,by kernel_rfl,by decide⟩⟩
instance:bK Tryz.prog 61 0 0:=⟨⟨_,_,1,Tryz.underlying61,rfl,rfl,by kernel_rfl,by decide⟩⟩
instance:bK Tryz.prog 289 1 1:=⟨⟨_,_,1,Tryz.underlying289,rfl,rfl,by kernel_rfl,by decide⟩⟩
instance:bK Tryz.prog 289 3 3:=⟨⟨_,_,5,Tryz.underlying289,rfl,rfl,by kernel_rfl,by decide⟩⟩
instance:bK Tryz.prog 289 0 0:=⟨⟨_,_,1,Tryz.underlying289,rfl,rfl,by kernel_rfl,by decide⟩⟩
instance:jk Tryz.prog 121:=⟨⟨_,Tryz.underlying121,trivial⟩⟩
instance:bK Tryz.prog 289 2 2:=⟨⟨_,_,1,Tryz.underlying289,rfl,rfl,by kernel_rfl,by decide⟩⟩
instance:bK Tryz.prog 289 4 8:=⟨⟨_,_,1,Tryz.underlying289,rfl,rfl,by kernel_rfl,by decide⟩⟩
instance:bK Tryz.prog 289 5 9:=⟨⟨_,_,1,Tryz.underlying289,rfl,rfl,by kernel_rfl,by decide⟩⟩
instance:kU Tryz.prog 230 [(0,1),(1,1),(2,1),(3,1)]:=⟨⟨_,Tryz.underlying230,rfl,by kernel_rfl⟩⟩
instance:bK Tryz.prog 124 4 4:=⟨⟨_,_,1,Tryz.underlying124,rfl,rfl,by kernel_rfl,by decide⟩⟩
instance:bK Tryz.prog 61 1 1:=⟨⟨_,_,1,Tryz.underlying61,rfl,rfl,by kernel_rfl,by decide⟩⟩
instance:bK Tryz.prog 159 1 1:=⟨⟨_,_,1,Tryz.underlying159,rfl,rfl,by kernel_rfl,by decide⟩⟩
instance:jk Tryz.prog 156:=⟨⟨_,Tryz.underlying156,trivial⟩⟩
instance:BZ Tryz.prog 61 1 1 3:=⟨⟨_,_,Tryz.underlying61,rfl,rfl,rfl⟩⟩
instance:bK Tryz.prog 43 0 0:=⟨⟨_,_,1,Tryz.underlying43,rfl,rfl,by kernel_rfl,by decide⟩⟩
instance:bK Tryz.prog 43 1 1:=⟨⟨_,_,1,Tryz.underlying43,rfl,rfl,by kernel_rfl,by decide⟩⟩
instance:bK Tryz.prog 43 3 3:=⟨⟨_,_,1,Tryz.underlying43,rfl,rfl,by kernel_rfl,by decide⟩⟩
instance:bK Tryz.prog 124 7 16:=⟨⟨_,_,2,Tryz.underlying124,rfl,rfl,by kernel_rfl,by decide⟩⟩
instance:bK Tryz.prog 61 6 6:=⟨⟨_,_,1,Tryz.underlying61,rfl,rfl,by kernel_rfl,by decide⟩⟩
instance:bK Tryz.prog 124 6 15:=⟨⟨_,_,1,Tryz.underlying124,rfl,rfl,by kernel_rfl,by decide⟩⟩
instance:qZ Tryz.prog 122 2:=⟨⟨⟨_,Tryz.underlying122,trivial⟩,by kernel_rfl⟩⟩
instance:iX Tryz.prog 122 2:=⟨by kernel_rfl⟩
instance:ES Tryz.prog 41 3 3 1:=⟨⟨Tryz.underlying41,by kernel_rfl⟩⟩
instance:IZ Tryz.prog 41 (.agg ([.int .i64 0,.int .i64 0,.int .i64 0]:List Value).toArray):=⟨by unfold bR;kernel_rfl⟩
instance:qZ Tryz.prog 41 3:=⟨⟨⟨_,Tryz.underlying41,trivial⟩,by kernel_rfl⟩⟩
instance:iX Tryz.prog 41 3:=⟨by kernel_rfl⟩
instance:BZ Tryz.prog 136 2 2 3:=⟨⟨_,_,Tryz.underlying136,rfl,rfl,rfl⟩⟩
instance:iX Tryz.prog 84 1:=⟨by kernel_rfl⟩
instance:bK Tryz.prog 43 4 4:=⟨⟨_,_,1,Tryz.underlying43,rfl,rfl,by kernel_rfl,by decide⟩⟩
instance:iX Tryz.prog 31 1:=⟨by kernel_rfl⟩
instance:bK Tryz.prog 43 2 2:=⟨⟨_,_,1,Tryz.underlying43,rfl,rfl,by kernel_rfl,by decide⟩⟩
instance:bK Tryz.prog 109 0 0:=⟨⟨_,_,1,Tryz.underlying109,rfl,rfl,by kernel_rfl,by decide⟩⟩
instance:iX Tryz.prog 37 1:=⟨by kernel_rfl⟩
instance:BZ Tryz.prog 61 2 2 3:=⟨⟨_,_,Tryz.underlying61,rfl,rfl,rfl⟩⟩
instance:qZ Tryz.prog 43 5:=⟨⟨⟨_,Tryz.underlying43,trivial⟩,by kernel_rfl⟩⟩
instance:oe Tryz.prog 98 43 5:=⟨⟨Tryz.underlying98,by kernel_rfl⟩⟩
instance:IZ Tryz.prog 43 (.agg ([.int .i64 0,.int .i64 0,.int .i64 0,.int .i64 0,.slice none 0 0]:List Value).toArray):=⟨by unfold bR;kernel_rfl⟩
instance:iX Tryz.prog 43 5:=⟨by kernel_rfl⟩
instance:oe Tryz.prog 49 59 2:=⟨⟨Tryz.underlying49,by kernel_rfl⟩⟩
instance:vG Tryz.prog 59 16:=⟨by unfold fT;kernel_rfl⟩
instance:kU Tryz.prog 43 [(0,1),(1,1),(2,1),(3,1),(4,1)]:=⟨⟨_,Tryz.underlying43,rfl,by kernel_rfl⟩⟩
instance:bK Tryz.prog 59 0 0:=⟨⟨_,_,1,Tryz.underlying59,rfl,rfl,by kernel_rfl,by decide⟩⟩
instance:bK Tryz.prog 59 1 1:=⟨⟨_,_,1,Tryz.underlying59,rfl,rfl,by kernel_rfl,by decide⟩⟩
instance:oe Tryz.prog 22 41 3:=⟨⟨Tryz.underlying22,by kernel_rfl⟩⟩
instance:dP Tryz.prog 2 (.int .i64):=⟨Tryz.underlying2⟩
instance:dP Tryz.prog 3 (.int .i64):=⟨Tryz.underlying3⟩
instance:dP Tryz.prog 4 .bool:=⟨Tryz.underlying4⟩
instance:dP Tryz.prog 5 (.int .u8):=⟨Tryz.underlying5⟩
instance:dP Tryz.prog 6 (.int .u8):=⟨Tryz.underlying6⟩
instance:dP Tryz.prog 9 .string:=⟨Tryz.underlying9⟩
instance:dP Tryz.prog 10 .string:=⟨Tryz.underlying10⟩
instance:dP Tryz.prog 11 .string:=⟨Tryz.underlying11⟩
instance:dP Tryz.prog 12 (.int .u64):=⟨Tryz.underlying12⟩
instance:dP Tryz.prog 15 (.pointer 373):=⟨Tryz.underlying15⟩
instance:dP Tryz.prog 16 (.pointer 376):=⟨Tryz.underlying16⟩
instance:dP Tryz.prog 17 (.pointer 384):=⟨Tryz.underlying17⟩
instance:dP Tryz.prog 21 (.int .i32):=⟨Tryz.underlying21⟩
instance:dP Tryz.prog 22 (.slice 41):=⟨Tryz.underlying22⟩
instance:dP Tryz.prog 23 (.slice 3):=⟨Tryz.underlying23⟩
instance:dP Tryz.prog 28 (.pointer 109):=⟨Tryz.underlying28⟩
instance:dP Tryz.prog 31 (.pointer 88):=⟨Tryz.underlying31⟩
instance:dP Tryz.prog 32 (.int .i64):=⟨Tryz.underlying32⟩
instance:dP Tryz.prog 37 (.pointer 97):=⟨Tryz.underlying37⟩
instance:dP Tryz.prog 44 (.slice 5):=⟨Tryz.underlying44⟩
instance:dP Tryz.prog 49 (.slice 59):=⟨Tryz.underlying49⟩
instance:dP Tryz.prog 72 (.pointer 191):=⟨Tryz.underlying72⟩
instance:dP Tryz.prog 74 (.pointer 194):=⟨Tryz.underlying74⟩
instance:dP Tryz.prog 76 (.pointer 124):=⟨Tryz.underlying76⟩
instance:dP Tryz.prog 78 (.pointer 258):=⟨Tryz.underlying78⟩
instance:dP Tryz.prog 80 (.pointer 262):=⟨Tryz.underlying80⟩
instance:dP Tryz.prog 82 (.pointer 188):=⟨Tryz.underlying82⟩
instance:dP Tryz.prog 84 (.slice 112):=⟨Tryz.underlying84⟩
instance:dP Tryz.prog 85 (.slice 4):=⟨Tryz.underlying85⟩
instance:dP Tryz.prog 86 (.slice 115):=⟨Tryz.underlying86⟩
instance:dP Tryz.prog 94 (.pointer 159):=⟨Tryz.underlying94⟩
instance:dP Tryz.prog 98 (.slice 43):=⟨Tryz.underlying98⟩
instance:dP Tryz.prog 102 (.pointer 173):=⟨Tryz.underlying102⟩
instance:dP Tryz.prog 121 (.pointer 289):=⟨Tryz.underlying121⟩
instance:dP Tryz.prog 137 (.slice 201):=⟨Tryz.underlying137⟩
instance:dP Tryz.prog 141 (.slice 144):=⟨Tryz.underlying141⟩
instance:dP Tryz.prog 149 (.pointer 151):=⟨Tryz.underlying149⟩
instance:dP Tryz.prog 156 (.pointer 240):=⟨Tryz.underlying156⟩
instance:dP Tryz.prog 189 (.slice 46):=⟨Tryz.underlying189⟩
instance:dP Tryz.prog 192 (.slice 44):=⟨Tryz.underlying192⟩
instance:dP Tryz.prog 203 (.slice 141):=⟨Tryz.underlying203⟩
instance:dP Tryz.prog 221 (.pointer 277):=⟨Tryz.underlying221⟩
instance:dP Tryz.prog 226 (.slice 230):=⟨Tryz.underlying226⟩
instance:dP Tryz.prog 238 (.slice 252):=⟨Tryz.underlying238⟩
instance:dP Tryz.prog 246 (.int .u32):=⟨Tryz.underlying246⟩
instance:dP Tryz.prog 253 (.pointer 252):=⟨Tryz.underlying253⟩
instance:dP Tryz.prog 259 (.pointer 308):=⟨Tryz.underlying259⟩
instance:dP Tryz.prog 266 (.int .u64):=⟨Tryz.underlying266⟩
instance:dP Tryz.prog 279 (.pointer 317):=⟨Tryz.underlying279⟩
instance:dP Tryz.prog 298 (.slice 302):=⟨Tryz.underlying298⟩
instance:dP Tryz.prog 311 (.int .u64):=⟨Tryz.underlying311⟩
instance:dP Tryz.prog 377 (.int .u8):=⟨Tryz.underlying377⟩
instance:dP Tryz.prog 378 (.int .u8):=⟨Tryz.underlying378⟩
instance:dP Tryz.prog 380 (.pointer 5):=⟨Tryz.underlying380⟩
instance:dP Tryz.prog 381 (.int .i32):=⟨Tryz.underlying381⟩
instance:dP Tryz.prog 382 (.int .i32):=⟨Tryz.underlying382⟩
def qa (p0:Int) (p1:Int) (H:PH) (Q:Int->PH->Prop):Prop:=
 xP p1<|
 aM (mK 1 (λc (s2:Int)=>c 5=VI s2) (λs2 b=>
 Q s2 b))
 λa=>
 aJ (decide ((Int.tmod p0 p1)< 0))
 (a (IntKind.wrap .i64 ((Int.tmod p0 p1)+p1)) H)
 (a (Int.tmod p0 p1) H)
def fp (p0:Int) (p1:Int) (H:PH) (Q:Int->PH->Prop):Prop:=
 qa p0 p1 H λa H1=>
 Q a H1
def mE (p0:Int) (H:PH) (Q:(Int×Int×Int)->PH->Prop):Prop:=
 ag H (row [VI 0,VI 0,VI 0] 26) λa1 c=>
 fp p0 20 c λe d=>
 aX d a1 ([VI (IntKind.wrap .i64 (1+e)),VI 8,VI 24]) λb=>
 aU (λ(x:(Int×Int×Int))=>[VI x.1,VI x.2.1,VI x.2.2]) b a1 3 λa=>
 Q (a.1,a.2.1,a.2.2) b
def eK (p0:Int) (p1:Int) (p2:Int) (H:PH) (Q:Bool->PH->Prop):Prop:=
 aM (mK 4 (λc (s2:Bool)=>c 14=VB s2) (λs2 b=>
 Q s2 b))
 λa=>
 aJ (decide (p1<=p0))
 (a (decide (p0<=p2)) H)
 (a false H)
def pU (p0:(Int×Int×Int)) (H:PH) (Q:Option Addr->Int->PH->Prop):Prop:=
 ag H (row [VI p0.1,VI p0.2.1,VI p0.2.2] 26) λa1 i=>
 aH (.int .i64) i (a1.add 0) λs=>
 eK s 1 64 i λt g=>
 aM (mK 5 (λr (h:Bool)=>r 1=VA a1/\r 13=VB h) (λh a=>
 aM (mK 5 (λr (c:Bool)=>r 1=VA a1/\r 19=VB c) (λc b=>
 aJ c
 (Q none 1 b)
 (aU (λ(x:(Int×Int×Int))=>[VI x.1,VI x.2.1,VI x.2.2]) b a1 3 λd=>
 ag b (row [VI d.1,VI d.2.1,VI d.2.2] 188) λm j=>
 Q (some m) 0 j)))
 λf=>
 aJ h
 (f true a)
 (aH (.int .i64) a (a1.add 2) λn=>
 eK n 24 64 a λp k=>
 f (!p) k)))
 λe=>
 aJ (!t)
 (e true g)
 (aH (.int .i64) g (a1.add 1) λo=>
 eK o 8 32 g λq l=>
 e (!q) l)
def vo (p0:Int) (p1:Int) (H:PH) (Q:Option Addr->PH->Prop):Prop:=
 aM (mK 3 (λb (s2:Bool)=>b 0=VI p0/\b 1=VI p1/\b 10=VB s2) (λs2 g=>
 aM (mK 3 (λb (e:Bool)=>b 0=VI p0/\b 1=VI p1/\b 14=VB e) (λe h=>
 aM (mK 3 (λb (a:Bool)=>b 0=VI p0/\b 1=VI p1/\b 18=VB a) (λa c=>
 aJ a
 (Q none c)
 (ag c (row [VI p0,VI p1,VI 0,VI 0,VI 0,VI 0,Sl.v Sl.nil] 191) λi f=>
 Q (some i) f)))
 λd=>
 aJ e
 (d true h)
 (d (decide (16<p1)) h)))
 λk=>
 aJ s2
 (k true g)
 (k (decide (p1< 1)) g)))
 λj=>
 aJ (decide (p0< 1))
 (j true H)
 (j (decide (2147483647<p0)) H)
def yW (p0:Int) (p1:Int) (H:PH) (Q:Int->PH->Prop):Prop:=
 xP p1<|
 Q (IntKind.wrap .i64 (Int.tdiv (IntKind.wrap .i64 ((IntKind.wrap .i64 (p0+p1))- 1)) p1)) H
def dq (p0:Option Addr) (H:PH) (Q:Int->PH->Prop):Prop:=
 aJ (Option.isNone p0)
 (Q 0 H)
 (aN p0 λb=>
 aH (.int .i64) H ((b.add 0).add 1) λc=>
 yW (IntKind.wrap .i64 (43+(IntKind.wrap .i64 (5*c)))) 64 H λd a=>
 Q d a)
def cU (p0:Option Addr) (H:PH) (Q:(Int×Int×Int)->PH->Prop):Prop:=
 ag H (row [VI 0,VI 0,VI 0] 26) λa1 d=>
 aJ (Option.isNone p0)
 (aX d a1 ([VI 0,VI 0,VI 0]) λf=>
 aU (λ(x:(Int×Int×Int))=>[VI x.1,VI x.2.1,VI x.2.2]) f a1 3 λe=>
 Q (e.1,e.2.1,e.2.2) f)
 (aN p0 λg=>
 aU (λ(x:(Int×Int×Int))=>[VI x.1,VI x.2.1,VI x.2.2]) d (g.add 0) 3 λa=>
 aX d a1 ([VI a.1,VI a.2.1,VI a.2.2]) λc=>
 aU (λ(x:(Int×Int×Int))=>[VI x.1,VI x.2.1,VI x.2.2]) c a1 3 λb=>
 Q (b.1,b.2.1,b.2.2) c)
def dg (p0:Option Addr) (H:PH) (Q:Int->PH->Prop):Prop:=
 cU p0 H λb H1=>
 yW b.1 15 H1 λc a=>
 Q c a
def kH (p0:Option Addr) (H:PH) (Q:Int->PH->Prop):Prop:=
 dq p0 H λb H1=>
 dg p0 H1 λc a=>
 Q (IntKind.wrap .i64 (2+(IntKind.wrap .i64 (2*(IntKind.wrap .i64 (b+(IntKind.wrap .i64 (2*c)))))))) a
def iF (p0:Option Addr) (H:PH) (Q:Int->PH->Prop):Prop:=
 aJ (Option.isNone p0)
 (Q 0 H)
 (mP [0,2,3]<|
 aN p0 λb=>
 mP [4,5,6]<|
 aH (.int .i64) H ((b.add 0).add 1) λd=>
 mP [7,8]<|
 aN p0 λc=>
 mP [9,10,11]<|
 aH (.int .i64) H ((c.add 0).add 2) λe=>
 mP [12,1]<|
 kH p0 H λf a=>
 ar a ((c.add 0).add 2) (VI e)<|
 ar a ((b.add 0).add 1) (VI d)<|
 mP [13,14]<|
 Q (IntKind.wrap .i64 (f+(IntKind.wrap .i64 (d*e)))) a)
def tL (p0:Int) (H:PH) (Q:Option Addr->Int->PH->Prop):Prop:=
 aM (λ(s2:Bool) (e:PH)=>
 aJ s2
 (Q none 1 e)
 (rV (sH 64 p0 p0)<|
 rV (sH 64 p0 p0)<|
 rV (sH 1 p0 p0)<|
 mC e (row (bz (p0:Int).toNat (List.replicate 64 (.int .u8 0))) 112) p0 p0 λh a=>
 mC a (row (bz (p0:Int).toNat (List.replicate 64 (.int .u8 0))) 112) p0 p0 λi b=>
 mC b (row (bz (p0:Int).toNat [.bool false]) 4) p0 p0 λj c=>
 ag c (row [Sl.v h,Sl.v i,Sl.v Sl.nil,Sl.v j,VI (-1),VI 0,.bool false] 88) λf d=>
 Q (some f) 0 d))
 λg=>
 aJ (decide (p0< 1))
 (g true H)
 (g (decide (4096<p0)) H)
def iw (p0:Option Addr) (H:PH) (Q:Int->PH->Prop):Prop:=
 aJ (Option.isNone p0)
 (Q 0 H)
 (aN p0 λa=>
 aH Sl.v H (a.add 1) λb=>
 Q (b.len:Int) H)
def og (p0:Option Addr) (p1:Int) (H:PH) (Q:Bool->PH->Prop):Prop:=
 aM (mK 3 (λg (s2:Bool)=>g 0=VP p0/\g 1=VI p1/\g 10=VB s2) (λs2 a=>
 aM (mK 8 (λg (b:Bool)=>g 19=VB b) (λb h=>
 Q b h))
 λe=>
 aJ s2
 (aN p0 λc=>
 aH Sl.v a (c.add 1) λf=>
 e (decide (p1<(f.len:Int))) a)
 (e false a)))
 λd=>
 aJ (!(Option.isNone p0))
 (d (decide (0<=p1)) H)
 (d false H)
def bc (p0:Sl) (H:PH) (Q:Sl->PH->Prop):Prop:=
 aJ (Option.isNone p0.a)
 (Q Sl.nil H)
 (bV H (row [] 5) 0 λd b=>
 fG b 5 1 1 [.int .u8 0] d p0 λr5 c=>
 Q r5 c)
def eQ (p0:Option Addr) (p1:Int) (H:PH) (Q:Sl->Int->PH->Prop):Prop:=
 og p0 p1 H λm H1=>
 aJ (!m)
 (Q Sl.nil 1 H1)
 (aN p0 λj=>
 aH .bool H1 (j.add 6) λl=>
 aJ l
 (Q Sl.nil 3 H1)
 (aN p0 λk=>
 aH Sl.v H1 (k.add 3) λf=>
 bX f 1 p1 λb=>
 aH .bool H1 b λg=>
 aJ g
 (Q Sl.nil 4 H1)
 (aN p0 λc=>
 aH Sl.v H1 (c.add 1) λh=>
 bX h 64 p1 λd=>
 zA 64 d 1 0 64 λe=>
 bc e H1 λi a=>
 Q i 0 a)))
def qw (p0:Option Addr) (H:PH) (Q:(Sl×Sl)->Int->PH->Prop):Prop:=
 ag H (row [.slice none 0 0,.slice none 0 0] 126) λa1 m=>
 bp (mL (λo (s4:Int)=>o 0=VP p0/\o 2=VA a1/\o 5=VI s4) (λs4 j b=>
 aJ (decide (s4< 2))
 (eQ p0 s4 j λl i n=>
 fW 2 a1 1 s4 λk=>
 aX n k ([Sl.v l]) λa=>
 aJ (i != 0)
 (aU (λ(x:(Sl×Sl))=>[Sl.v x.1,Sl.v x.2]) a a1 2 λe=>
 aX a a1 ([Sl.v e.1,Sl.v e.2]) λc=>
 aU (λ(x:(Sl×Sl))=>[Sl.v x.1,Sl.v x.2]) c a1 2 λf=>
 Q (f.1,f.2) i c)
 (b (IntKind.wrap .i64 (s4+1)) a))
 (aU (λ(x:(Sl×Sl))=>[Sl.v x.1,Sl.v x.2]) j a1 2 λg=>
 aX j a1 ([Sl.v g.1,Sl.v g.2]) λd=>
 aU (λ(x:(Sl×Sl))=>[Sl.v x.1,Sl.v x.2]) d a1 2 λh=>
 Q (h.1,h.2) 0 d)))
 0 m
def lB (p0:Sl) (H:PH) (Q:Option Addr->PH->Prop):Prop:=
 aJ (decide (65536<(p0.len:Int)))
 (Q none H)
 (bc p0 H λd a=>
 ag a (row [Sl.v d,VI 0] 173) λc b=>
 Q (some c) b)
def jR (p0:Option Addr) (H:PH) (Q:Int->PH->Prop):Prop:=
 aJ (Option.isNone p0)
 (Q 0 H)
 (mP [0,1]<|
 aN p0 λa=>
 mP [2,3]<|
 aH Sl.v H (a.add 0) λc=>
 mP [4,5,6]<|
 aN p0 λb=>
 mP [7,8]<|
 aH (.int .i64) H (b.add 1) λd=>
 mP [9,10]<|
 Q (IntKind.wrap .i64 ((c.len:Int)-d)) H)
def fI (p0:Option Addr) (p1:Int) (H:PH) (Q:Sl->Bool->PH->Prop):Prop:=
 aM (mK 3 (λd (s2:Bool)=>d 0=VP p0/\d 1=VI p1/\d 12=VB s2) (λs2 g=>
 aM (mK 5 (λd (c:Bool)=>d 0=VP p0/\d 1=VI p1/\d 18=VB c) (λc a=>
 aJ c
 (Q Sl.nil false a)
 (mP [0,1]<|
 aN p0 λh=>
 mP [2,3]<|
 aH Sl.v a (h.add 0) λp=>
 mP [4,5]<|
 aN p0 λi=>
 mP [6,7]<|
 aH (.int .i64) a (i.add 1) λq=>
 mP [8,9]<|
 aN p0 λj=>
 mP [10,11]<|
 aH (.int .i64) a (j.add 1) λr=>
 mP [12,13,14]<|
 kG p 1 q (IntKind.wrap .i64 (r+p1)) λo=>
 mP [15]<|
 bc o a λt b=>
 mP [16]<|
 aN p0 λk=>
 aH (.int .i64) b (k.add 1) λs=>
 aN p0 λl=>
 aX b (l.add 1) ([VI (IntKind.wrap .i64 (s+p1))]) λe=>
 Q t true e)))
 λn=>
 aJ s2
 (n true g)
 (jR p0 g λu f=>
 n (decide (u<p1)) f)))
 λm=>
 aJ (Option.isNone p0)
 (m true H)
 (m (decide (p1< 0)) H)
def wk (p0:Int) (H:PH) (Q:Bool->PH->Prop):Prop:=
 aM (mK 3 (λe (s2:Bool)=>e 0=VI p0/\e 8=VB s2) (λs2 b=>
 aM (mK 3 (λe (a:Bool)=>e 12=VB a) (λa f=>
 Q a f))
 λd=>
 aJ s2
 (d true b)
 (d (p0==4) b)))
 λc=>
 aJ (p0==1)
 (c true H)
 (c (p0==2) H)
def ba (p0:Option Addr) (p1:Int) (H:PH) (Q:Int->Bool->PH->Prop):Prop:=
 aM (mK 4 (λc (s2:Bool)=>c 0=VP p0/\c 1=VI p1/\c 4=VI 0/\c 13=VB s2) (λs2 h=>
 aM (mK 5 (λc (e:Bool)=>c 0=VP p0/\c 1=VI p1/\c 4=VI 0/\c 19=VB e) (λe j=>
 aJ e
 (Q 0 false j)
 (bp (mL (λc (a:Int×Int)=>c 0=VP p0/\c 1=VI p1/\c 4=VI a.1/\c 20=VI p1/\c 21=VI a.2) (λa b d=>
 aJ (decide (a.2<p1))
 (mP [0,1,2]<|
 aN p0 λk=>
 mP [3,4]<|
 aH Sl.v b (k.add 0) λr=>
 mP [5,6]<|
 aN p0 λl=>
 mP [7,8]<|
 aH (.int .i64) b (l.add 1) λs=>
 mP [9,10,11]<|
 bX r 1 (IntKind.wrap .i64 (s+a.2)) λm=>
 mP [12]<|
 aH (.int .u8) b m λt=>
 mP [13,14,15,16]<|
 Cg (IntKind.wrap .i64 (8*a.2))<|
 mP [17,18]<|
 d (ID .i64 a.1 (wc .i64 (IntKind.wrap .i64 t) (IntKind.wrap .i64 (8*a.2))),IntKind.wrap .i64 (a.2+1)) b)
 (aN p0 λn=>
 aH (.int .i64) b (n.add 1) λu=>
 aN p0 λo=>
 aX b (o.add 1) ([VI (IntKind.wrap .i64 (u+p1))]) λf=>
 Q a.1 true f)))
 (0,0) j)))
 λq=>
 aJ s2
 (q true h)
 (jR p0 h λw g=>
 q (decide (w<p1)) g)))
 λp=>
 aJ (Option.isNone p0)
 (p true H)
 (wk p1 H λx i=>
 p (!x) i)
def xU (p0:(Int×Int×Int×Int×Int)) (H:PH) (Q:Bool->PH->Prop):Prop:=
 ag H (row [VI p0.1,VI p0.2.1,VI p0.2.2.1,VI p0.2.2.2.1,VI p0.2.2.2.2] 130) λa1 n=>
 aU (λ(x:(Int×Int×Int))=>[VI x.1,VI x.2.1,VI x.2.2]) n (a1.add 0) 3 λm=>
 pU (m.1,m.2.1,m.2.2) n λu t l=>
 aM (mK 4 (λg (cX:Bool)=>g 1=VA a1/\g 17=VB cX) (λcX a=>
 aM (mK 4 (λg (d:Bool)=>g 1=VA a1/\g 22=VB d) (λd b=>
 aM (mK 4 (λg (e:Bool)=>g 1=VA a1/\g 27=VB e) (λe c=>
 aM (mK 4 (λg (f:Bool)=>g 32=VB f) (λf o=>
 Q f o))
 λk=>
 aJ e
 (aH (.int .i64) c (a1.add 4) λp=>
 k (decide (p<=2147483647)) c)
 (k false c)))
 λj=>
 aJ d
 (aH (.int .i64) b (a1.add 4) λq=>
 j (decide (1<=q)) b)
 (j false b)))
 λi=>
 aJ cX
 (aH (.int .i64) a (a1.add 3) λr=>
 i (decide (r<=2147483647)) a)
 (i false a)))
 λh=>
 aJ (t==0)
 (aH (.int .i64) l (a1.add 3) λs=>
 h (decide (0<=s)) l)
 (h false l)
def qL (p0:Int) (H:PH) (Q:Option Addr->PH->Prop):Prop:=
 aM (mK 3 (λg (s2:Bool)=>g 0=VI p0/\g 8=VB s2) (λs2 b=>
 aJ s2
 (Q none b)
 (xO b 5 1 [.int .u8 0] p0 p0 λf e=>
 ag e (row [Sl.v f,VI 0] 173) λc a=>
 Q (some c) a)))
 λd=>
 aJ (decide (p0< 0))
 (d true H)
 (d (decide (65536<p0)) H)
def bt (p0:Option Addr) (p1:Int) (p2:Sl) (H:PH) (Q:Bool->PH->Prop):Prop:=
 aM (mK 4 (λa (s2:Bool)=>a 0=VP p0/\a 1=VI p1/\a 2=Sl.v p2/\a 18=VB s2) (λs2 q=>
 aM (mK 8 (λa (p:Bool)=>a 0=VP p0/\a 1=VI p1/\a 2=Sl.v p2/\a 27=VB p) (λp w=>
 aJ p
 (Q false w)
 (bp (mL (λa (c:Int)=>a 0=VP p0/\a 1=VI p1/\a 2=Sl.v p2/\a 28=Sl.v p2/\a 29=VI (p2.len:Int)/\a 30=VI c) (λc f g=>
 aJ (decide (c<(p2.len:Int)))
 (bX p2 1 c λx=>
 aH (.int .i64) f x λn=>
 aM (mK 6 (λa (k:Bool)=>a 0=VP p0/\a 1=VI p1/\a 2=Sl.v p2/\a 28=Sl.v p2/\a 29=VI (p2.len:Int)/\a 30=VI c/\a 42=VB k) (λk l=>
 aJ k
 (Q false l)
 (g (IntKind.wrap .i64 (c+1)) l)))
 λm=>
 aJ (decide (n< 0))
 (m true f)
 (Cg (IntKind.wrap .i64 (8*p1))<|
 m ((g8 .i64 n (IntKind.wrap .i64 (8*p1))) != 0) f))
 (bp (mL (λa (d:Int)=>a 0=VP p0/\a 1=VI p1/\a 44=Sl.v p2/\a 45=VI (p2.len:Int)/\a 46=VI d) (λd j h=>
 aJ (decide (d<(p2.len:Int)))
 (bX p2 1 d λy=>
 aH (.int .i64) j y λo=>
 bp (mL (λa (b:Int)=>a 0=VP p0/\a 1=VI p1/\a 10=VI o/\a 44=Sl.v p2/\a 45=VI (p2.len:Int)/\a 46=VI d/\a 50=VI p1/\a 51=VI b) (λb e i=>
 aJ (decide (b<p1))
 (mP [0,1]<|
 aN p0 λz=>
 mP [2,3]<|
 aH Sl.v e (z.add 0) λG=>
 mP [4,5]<|
 aN p0 λA=>
 mP [6,7]<|
 aH (.int .i64) e (A.add 1) λI=>
 mP [8,9,10,11,12,13]<|
 Cg (IntKind.wrap .i64 (8*b))<|
 mP [14,15,16]<|
 bX G 1 (IntKind.wrap .i64 (I+b)) λB=>
 mP [17]<|
 aX e B ([.int .u8 (IntKind.wrap .u8 (kE .i64 (g8 .i64 o (IntKind.wrap .i64 (8*b))) 255))]) λr=>
 i (IntKind.wrap .i64 (b+1)) r)
 (aN p0 λC=>
 aH (.int .i64) e (C.add 1) λJ=>
 aN p0 λD=>
 aX e (D.add 1) ([VI (IntKind.wrap .i64 (J+p1))]) λs=>
 h (IntKind.wrap .i64 (d+1)) s)))
 0 j)
 (Q true j)))
 0 f)))
 0 w)))
 λF=>
 aJ s2
 (F true q)
 (jR p0 q λK t=>
 xP p1<|
 F (decide ((IntKind.wrap .i64 (Int.tdiv K p1))<(p2.len:Int))) t)))
 λE=>
 aJ (Option.isNone p0)
 (E true H)
 (wk p1 H λL u=>
 E (!L) u)
def fy (p0:Option Addr) (H:PH) (Q:Sl->PH->Prop):Prop:=
 aJ (Option.isNone p0)
 (Q Sl.nil H)
 (aN p0 λb=>
 aH Sl.v H (b.add 0) λc=>
 bc c H λd a=>
 Q d a)
def BF (p0:Int) (p1:Sl) (H:PH) (Q:Int->PH->Prop):Prop:=
 bp (mL (λa (s1:Int×Int)=>a 0=.int .u32 s1.1/\a 9=Sl.v p1/\a 10=VI (p1.len:Int)/\a 11=VI s1.2) (λs1 g d=>
 aJ (decide (s1.2<(p1.len:Int)))
 (bX p1 1 s1.2 λj=>
 aH (.int .u8) g j λh=>
 bp (mL (λa (cX:Int×Int)=>a 0=.int .u32 cX.1/\a 6=.int .u8 h/\a 9=Sl.v p1/\a 10=VI (p1.len:Int)/\a 11=VI s1.2/\a 15=VI cX.2) (λcX c b=>
 aJ (decide (cX.2< 8))
 (aM (mB (λa (e:Int)=>a 0=.int .u32 e/\a 6=.int .u8 h/\a 9=Sl.v p1/\a 10=VI (p1.len:Int)/\a 11=VI s1.2/\a 15=VI cX.2) (λe i=>
 b (e,IntKind.wrap .i64 (cX.2+1)) i))
 λf=>
 Cg cX.2<|
 aJ ((kE .u32 (wb .u32 cX.1 (g8 .u32 (IntKind.wrap .u32 h) cX.2)) 1)==1)
 (f (wb .u32 (g8 .u32 cX.1 1) 2197175160) c)
 (f (g8 .u32 cX.1 1) c))
 (d (cX.1,IntKind.wrap .i64 (s1.2+1)) c)))
 (s1.1,0) g)
 (Q s1.1 g)))
 (p0,0) H
def wO (p0:Sl) (H:PH) (Q:Int->PH->Prop):Prop:=
 bp (mL (λe (s1:Int×Int)=>e 3=.int .u32 s1.1/\e 6=Sl.v p0/\e 7=VI (p0.len:Int)/\e 8=VI s1.2) (λs1 b a=>
 aJ (decide (s1.2<(p0.len:Int)))
 (bX p0 1 s1.2 λf=>
 aH Sl.v b f λg=>
 BF s1.1 g b λd c=>
 a (d,IntKind.wrap .i64 (s1.2+1)) c)
 (Q (IntKind.wrap .i64 (Ni .u32 s1.1)) b)))
 (4294967295,0) H
def mF (p0:Sl) (H:PH) (Q:Sl->PH->Prop):Prop:=
 kG p0 1 0 (IntKind.wrap .i64 ((p0.len:Int)- 4)) λj=>
 bV H (row [Sl.v j] 44) 1 λk h=>
 wO k h λf i=>
 bp (mL (λg (a:Int)=>g 0=Sl.v p0/\g 3=VI (IntKind.wrap .i64 ((p0.len:Int)- 4))/\g 4=VI f/\g 14=VI a) (λa c b=>
 aJ (decide (a< 4))
 (Cg (IntKind.wrap .i64 (8*a))<|
 bX p0 1 (IntKind.wrap .i64 ((IntKind.wrap .i64 ((p0.len:Int)- 4))+a)) λe=>
 aX c e ([.int .u8 (IntKind.wrap .u8 (kE .i64 (g8 .i64 f (IntKind.wrap .i64 (8*a))) 255))]) λd=>
 b (IntKind.wrap .i64 (a+1)) d)
 (Q p0 c)))
 0 i
def mG (p0:(Int×Int×Int×Int×Int)) (H:PH) (Q:Sl->Int->PH->Prop):Prop:=
 ag H (row [VI p0.1,VI p0.2.1,VI p0.2.2.1,VI p0.2.2.2.1,VI p0.2.2.2.2] 130) λa1 f=>
 aU (λ(x:(Int×Int×Int×Int×Int))=>[VI x.1,VI x.2.1,VI x.2.2.1,VI x.2.2.2.1,VI x.2.2.2.2]) f a1 5 λb=>
 xU (b.1,b.2.1,b.2.2.1,b.2.2.2.1,b.2.2.2.2) f λu k=>
 aJ (!u)
 (Q Sl.nil 1 k)
 (qL 64 k λc d=>
 aH (.int .i64) d ((a1.add 0).add 0) λn=>
 aH (.int .i64) d ((a1.add 0).add 1) λo=>
 aH (.int .i64) d ((a1.add 0).add 2) λp=>
 bV d (row [VI 75,VI 83,VI n,VI o,VI p] 3) 5 λl e=>
 bt c 1 l e λv a=>
 aH (.int .i64) a (a1.add 3) λq=>
 aH (.int .i64) a (a1.add 4) λr=>
 bV a (row [VI q,VI r] 3) 2 λm g=>
 bt c 4 m g λw h=>
 fy c h λs i=>
 mF s i λt j=>
 Q t 0 j)
def gx (p0:Sl) (p1:Sl) (H:PH) (Q:Bool->PH->Prop):Prop:=
 N0 H p0 λa=>
 N0 H p1 λb=>
 Q (a.toList==b.toList) H
def qx (p0:Sl) (H:PH) (Q:(Int×Int×Int×Int×Int)->Int->PH->Prop):Prop:=
 ag H (row [VI 0,VI 0,VI 0,VI 0,VI 0] 130) λa1 E=>
 lB p0 E λe F=>
 fI e 2 F λP R G=>
 ba e 1 G λv J I=>
 aX I ((a1.add 0).add 0) ([VI v]) λm=>
 ba e 1 m λw K n=>
 aX n ((a1.add 0).add 1) ([VI w]) λo=>
 ba e 1 o λy L p=>
 aX p ((a1.add 0).add 2) ([VI y]) λq=>
 ba e 4 q λz M r=>
 aX r (a1.add 3) ([VI z]) λs=>
 ba e 4 s λA N t=>
 aX t (a1.add 4) ([VI A]) λh=>
 aU (λ(x:(Int×Int×Int×Int×Int))=>[VI x.1,VI x.2.1,VI x.2.2.1,VI x.2.2.2.1,VI x.2.2.2.2]) h a1 5 λa=>
 mG (a.1,a.2.1,a.2.2.1,a.2.2.2.1,a.2.2.2.2) h λB C i=>
 aM (mK 5 (λO (g:Bool)=>O 2=VA a1/\O 56=VB g) (λg f=>
 aJ g
 (aX f a1 ([VI 0,VI 0,VI 0,VI 0,VI 0]) λj=>
 aU (λ(x:(Int×Int×Int×Int×Int))=>[VI x.1,VI x.2.1,VI x.2.2.1,VI x.2.2.2.1,VI x.2.2.2.2]) j a1 5 λb=>
 Q (b.1,b.2.1,b.2.2.1,b.2.2.2.1,b.2.2.2.2) 2 j)
 (aU (λ(x:(Int×Int×Int×Int×Int))=>[VI x.1,VI x.2.1,VI x.2.2.1,VI x.2.2.2.1,VI x.2.2.2.2]) f a1 5 λc=>
 aX f a1 ([VI c.1,VI c.2.1,VI c.2.2.1,VI c.2.2.2.1,VI c.2.2.2.2]) λk=>
 aU (λ(x:(Int×Int×Int×Int×Int))=>[VI x.1,VI x.2.1,VI x.2.2.1,VI x.2.2.2.1,VI x.2.2.2.2]) k a1 5 λd=>
 Q (d.1,d.2.1,d.2.2.1,d.2.2.2.1,d.2.2.2.2) 0 k)))
 λl=>
 aJ (C != 0)
 (l true i)
 (gx B p0 i λD u=>
 l (!D) u)
def qy (p0:Sl) (p1:Sl) (H:PH) (Q:(Int×Int×Int×Int×Int)->Int->Int->PH->Prop):Prop:=
 ag H (row [VI 0,VI 0,VI 0,VI 0,VI 0] 130) λa1 C=>
 qx p0 C λo B D=>
 ag D (row [VI 0,VI 0,VI 0,VI 0,VI 0] 130) λl E=>
 aX E l ([VI o.1,VI o.2.1,VI o.2.2.1,VI o.2.2.2.1,VI o.2.2.2.2]) λu=>
 qx p1 u λi j v=>
 ag v (row [VI 0,VI 0,VI 0,VI 0,VI 0] 130) λc w=>
 aX w c ([VI i.1,VI i.2.1,VI i.2.2.1,VI i.2.2.2.1,VI i.2.2.2.2]) λa=>
 aM (mK 10 (λk (m:Bool)=>k 4=VA a1/\k 7=VA l/\k 9=VA c/\k 10=VI j/\k 34=VB m) (λm b=>
 aJ m
 (aU (λ(x:(Int×Int×Int×Int×Int))=>[VI x.1,VI x.2.1,VI x.2.2.1,VI x.2.2.2.1,VI x.2.2.2.2]) b l 5 λd=>
 aX b a1 ([VI d.1,VI d.2.1,VI d.2.2.1,VI d.2.2.2.1,VI d.2.2.2.2]) λp=>
 aU (λ(x:(Int×Int×Int×Int×Int))=>[VI x.1,VI x.2.1,VI x.2.2.1,VI x.2.2.2.1,VI x.2.2.2.2]) p a1 5 λe=>
 Q (e.1,e.2.1,e.2.2.1,e.2.2.2.1,e.2.2.2.2) 0 0 p)
 (aJ (j==0)
 (aU (λ(x:(Int×Int×Int×Int×Int))=>[VI x.1,VI x.2.1,VI x.2.2.1,VI x.2.2.2.1,VI x.2.2.2.2]) b c 5 λf=>
 aX b a1 ([VI f.1,VI f.2.1,VI f.2.2.1,VI f.2.2.2.1,VI f.2.2.2.2]) λq=>
 aU (λ(x:(Int×Int×Int×Int×Int))=>[VI x.1,VI x.2.1,VI x.2.2.1,VI x.2.2.2.1,VI x.2.2.2.2]) q a1 5 λg=>
 Q (g.1,g.2.1,g.2.2.1,g.2.2.2.1,g.2.2.2.2) 1 0 q)
 (aX b a1 ([VI 0,VI 0,VI 0,VI 0,VI 0]) λr=>
 aU (λ(x:(Int×Int×Int×Int×Int))=>[VI x.1,VI x.2.1,VI x.2.2.1,VI x.2.2.2.1,VI x.2.2.2.2]) r a1 5 λh=>
 Q (h.1,h.2.1,h.2.2.1,h.2.2.2.1,h.2.2.2.2) 0 2 r))))
 λs=>
 aJ (B==0)
 (aM (mK 6 (λk (n:Bool)=>k 4=VA a1/\k 7=VA l/\k 9=VA c/\k 10=VI j/\k 24=VB (B==0)/\k 33=VB n) (λn y=>
 s n y))
 λt=>
 aJ (j != 0)
 (t true a)
 (aH (.int .i64) a (l.add 4) λz=>
 aH (.int .i64) a (c.add 4) λA=>
 t (decide (A<=z)) a))
 (s false a)
def uf (p0:Option Addr) (p1:Int) (H:PH) (Q:(Int×Int×Int×Int×Int×Int×Int×Int×Int×Int×Int×Sl×Sl×Sl)->PH->Prop):Prop:=
 ag H (row [VI 0,VI 0,VI 0,VI 0,VI 0,VI 0,VI 0,VI 0,VI 0,VI 0,VI 0,.slice none 0 0,.slice none 0 0,.slice none 0 0] 139) λa1 k=>
 dg p0 k λj l=>
 xO l 3 8 [VI 0] j j λi m=>
 cU p0 m λd e=>
 xO e 201 16 [VI 0,VI 0] d.2.1 d.2.1 λc f=>
 bX c 2 0 λh=>
 aX f (h.add 0) ([VI 1]) λg=>
 aX g a1 ([VI 1,VI 1,VI 1,VI 0,VI 0,VI 0,VI 0,VI 0,VI 1,VI 0,VI p1,Sl.v i,Sl.v i,Sl.v c]) λb=>
 aU (λ(x:(Int×Int×Int×Int×Int×Int×Int×Int×Int×Int×Int×Sl×Sl×Sl))=>[VI x.1,VI x.2.1,VI x.2.2.1,VI x.2.2.2.1,VI x.2.2.2.2.1,VI x.2.2.2.2.2.1,VI x.2.2.2.2.2.2.1,VI x.2.2.2.2.2.2.2.1,VI x.2.2.2.2.2.2.2.2.1,VI x.2.2.2.2.2.2.2.2.2.1,VI x.2.2.2.2.2.2.2.2.2.2.1,Sl.v x.2.2.2.2.2.2.2.2.2.2.2.1,Sl.v x.2.2.2.2.2.2.2.2.2.2.2.2.1,Sl.v x.2.2.2.2.2.2.2.2.2.2.2.2.2]) b a1 14 λa=>
 Q (a.1,a.2.1,a.2.2.1,a.2.2.2.1,a.2.2.2.2.1,a.2.2.2.2.2.1,a.2.2.2.2.2.2.1,a.2.2.2.2.2.2.2.1,a.2.2.2.2.2.2.2.2.1,a.2.2.2.2.2.2.2.2.2.1,a.2.2.2.2.2.2.2.2.2.2.1,a.2.2.2.2.2.2.2.2.2.2.2.1,a.2.2.2.2.2.2.2.2.2.2.2.2.1,a.2.2.2.2.2.2.2.2.2.2.2.2.2) b
def gy (p0:Int) (p1:Int) (p2:Int) (H:PH) (Q:Bool->PH->Prop):Prop:=
 aM (mK 4 (λc (s2:Bool)=>c 14=VB s2) (λs2 b=>
 Q s2 b))
 λa=>
 aJ (decide (p1<=p0))
 (a (decide (p0<=p2)) H)
 (a false H)
def rh (p0:(Int×Int×Int×Int×Int×Int×Int×Int×Int×Int×Int×Sl×Sl×Sl)) (H:PH) (Q:Bool->PH->Prop):Prop:=
 ag H (row [VI p0.1,VI p0.2.1,VI p0.2.2.1,VI p0.2.2.2.1,VI p0.2.2.2.2.1,VI p0.2.2.2.2.2.1,VI p0.2.2.2.2.2.2.1,VI p0.2.2.2.2.2.2.2.1,VI p0.2.2.2.2.2.2.2.2.1,VI p0.2.2.2.2.2.2.2.2.2.1,VI p0.2.2.2.2.2.2.2.2.2.2.1,Sl.v p0.2.2.2.2.2.2.2.2.2.2.2.1,Sl.v p0.2.2.2.2.2.2.2.2.2.2.2.2.1,Sl.v p0.2.2.2.2.2.2.2.2.2.2.2.2.2] 139) λa1 k=>
 aH (.int .i64) k (a1.add 2) λN=>
 aM (mK 4 (λa (l:Bool)=>a 1=VA a1/\a 11=VB l) (λl y=>
 aH (.int .i64) y (a1.add 0) λA=>
 gy A 1 2147483647 y λI c=>
 aM (mK 4 (λa (f:Bool)=>a 1=VA a1/\a 3=VB l/\a 19=VB f) (λf m=>
 aM (mK 2 (λa (g:Bool)=>a 1=VA a1/\a 22=VB g) (λg d=>
 aM (mK 4 (λa (h:Bool)=>a 1=VA a1/\a 27=VB h) (λh e=>
 aM (mK 4 (λa (i:Bool)=>a 1=VA a1/\a 32=VB i) (λi b=>
 aM (mK 6 (λa (j:Bool)=>a 39=VB j) (λj s=>
 Q j s))
 λr=>
 aJ i
 (aH (.int .i64) b (a1.add 5) λB=>
 aH (.int .i64) b (a1.add 4) λC=>
 gy B 0 C b λJ t=>
 r J t)
 (r false b)))
 λq=>
 aJ h
 (aH (.int .i64) e (a1.add 4) λD=>
 gy D 0 2147483647 e λK u=>
 q K u)
 (q false e)))
 λp=>
 aJ g
 (aH (.int .i64) d (a1.add 3) λE=>
 gy E 0 2147483647 d λL w=>
 p L w)
 (p false d)))
 λo=>
 aJ f
 (o l m)
 (o false m)))
 λn=>
 aJ I
 (aH (.int .i64) c (a1.add 1) λF=>
 gy F 1 2147483647 c λM x=>
 n M x)
 (n false c)))
 λz=>
 aJ (N==1)
 (z true k)
 (aH (.int .i64) k (a1.add 2) λG=>
 z (G==2) k)
def lC (p0:Option Addr) (p1:Int) (H:PH) (Q:Bool->PH->Prop):Prop:=
 aM (mK 9 (λg (s2:Bool)=>g 16=VB s2) (λs2 d=>
 Q s2 d))
 λb=>
 aJ (!(Option.isNone p0))
 (aN p0 λe=>
 aH (.int .i64) H ((e.add 0).add 1) λf=>
 eK p1 0 (IntKind.wrap .i64 (f- 1)) H λc a=>
 b c a)
 (b false H)
def qC (p0:Option Addr) (p1:(Int×Int×Int×Int×Int)) (H:PH) (Q:Bool->PH->Prop):Prop:=
 ag H (row [VI p1.1,VI p1.2.1,VI p1.2.2.1,VI p1.2.2.2.1,VI p1.2.2.2.2] 136) λa1 n=>
 mP [0,1,2]<|
 aH (.int .i64) n (a1.add 0) λD=>
 mP [3]<|
 lC p0 D n λE h=>
 mP [4]<|
 aM (mQ 32767 [11,6] (λa (m:Bool)=>a 3=VA a1/\a 4=VB false/\a 19=VB m) (λm b=>
 mP [15]<|
 aM (mQ 1048575 [17,11,6] (λa (e:Bool)=>a 3=VA a1/\a 4=VB false/\a 24=VB e) (λe c=>
 mP [20]<|
 aM (mQ 33554431 [22,17,11,6] (λa (f:Bool)=>a 3=VA a1/\a 4=VB false/\a 29=VB f) (λf d=>
 mP [25]<|
 aM (mQ 1073741823 [27,22,17,11,6] (λa (g:Bool)=>a 4=VB false/\a 34=VB g) (λg o=>
 mP [30]<|
 Q g o))
 λl=>
 aJ f
 (mP [26,27]<|
 aH (.int .i64) d (a1.add 3) λu=>
 mP [28]<|
 eK u 0 4294967295 d λz p=>
 mP [29]<|
 l z p)
 (mP [26,27,28,29]<|
 l false d)))
 λk=>
 aJ e
 (mP [21,22]<|
 aH (.int .i64) c (a1.add 4) λv=>
 mP [23]<|
 eK v 1 2147483647 c λA q=>
 mP [24]<|
 k A q)
 (mP [21,22,23,24]<|
 k false c)))
 λj=>
 aJ m
 (mP [16,17]<|
 aH (.int .i64) b (a1.add 2) λw=>
 mP [18]<|
 eK w 1 2147483647 b λB r=>
 mP [19]<|
 j B r)
 (mP [16,17,18,19]<|
 j false b)))
 λi=>
 aJ E
 (mP [5,6]<|
 aH (.int .i64) h (a1.add 1) λx=>
 mP [7,8]<|
 aN p0 λt=>
 mP [9,10,11]<|
 aH (.int .i64) h ((t.add 0).add 2) λy=>
 mP [12,13]<|
 eK x 0 (IntKind.wrap .i64 (y- 1)) h λC s=>
 mP [14]<|
 i C s)
 (mP [5,6,7,8,9,10,11,12,13,14]<|
 i false h)
def gA (p0:Sl) (p1:Value) (H:PH) (Q:Int->PH->Prop):Prop:=
 bp (λ(s1:Int) (d:PH) (a:Int->PH->Prop)=>
 aJ (decide (s1<(p0.len:Int)))
 (bX p0 1 s1 λf=>
 aH (.int .i64) d f λg=>
 ue Tryz.prog p1 [VI g] d λe b=>
 ∃(c:Bool),e= .bool c/\
 aJ c
 (Q s1 b)
 (a (IntKind.wrap .i64 (s1+1)) b))
 (Q (-1) d))
 0 H
def cg (p0:Sl) (p1:Value) (H:PH) (Q:Bool->PH->Prop):Prop:=
 gA p0 p1 H λa H1=>
 Q (decide (0<=a)) H1
def rA (p0:Sl) (p1:Int) (H:PH) (Q:Bool->PH->Prop):Prop:=
 aM (mK 4 (λe (s2:Bool)=>e 13=VB s2) (λs2 b=>
 Q s2 b))
 λa=>
 aJ ((p0.len:Int)==p1)
 (cg p0 (.func (.func 256) #[] #[]) H λd c=>
 a (!d) c)
 (a false H)
def vp (p0:Option Addr) (p1:(Int×Int×Int×Int×Int×Int×Int×Int×Int×Int×Int×Sl×Sl×Sl)) (H:PH) (Q:Bool->PH->Prop):Prop:=
 ag H (row [VI p1.1,VI p1.2.1,VI p1.2.2.1,VI p1.2.2.2.1,VI p1.2.2.2.2.1,VI p1.2.2.2.2.2.1,VI p1.2.2.2.2.2.2.1,VI p1.2.2.2.2.2.2.2.1,VI p1.2.2.2.2.2.2.2.2.1,VI p1.2.2.2.2.2.2.2.2.2.1,VI p1.2.2.2.2.2.2.2.2.2.2.1,Sl.v p1.2.2.2.2.2.2.2.2.2.2.2.1,Sl.v p1.2.2.2.2.2.2.2.2.2.2.2.2.1,Sl.v p1.2.2.2.2.2.2.2.2.2.2.2.2.2] 139) λa1 L=>
 mP [0,1,2]<|
 aM (mQ 127 [3] (λb (s5:Bool)=>b 0=VP p0/\b 3=VA a1/\b 13=VB s5) (λs5 M=>
 mP [7]<|
 aM (mQ 16383 [10,3] (λb (cX:Bool)=>b 0=VP p0/\b 3=VA a1/\b 20=VB cX) (λcX i=>
 mP [14]<|
 aM (mQ 4194303 [16,10,3] (λb (o:Bool)=>b 0=VP p0/\b 3=VA a1/\b 28=VB o) (λo j=>
 mP [22]<|
 aM (mQ 1073741823 [24,16,10,3] (λb (p:Bool)=>b 0=VP p0/\b 3=VA a1/\b 36=VB p) (λp k=>
 mP [30]<|
 aM (mQ 549755813887 [32,24,16,10,3] (λb (q:Bool)=>b 3=VA a1/\b 45=VB q) (λq l=>
 aJ q
 (Q false l)
 (aH Sl.v l (a1.add 13) λd=>
 bp (mL (λb (c:Int)=>b 3=VA a1/\b 47=Sl.v d/\b 48=VI (d.len:Int)/\b 49=VI c) (λc m h=>
 aJ (decide (c<(d.len:Int)))
 (bX d 2 c λU=>
 aU (λ(x:(Int×Int))=>[VI x.1,VI x.2]) m U 2 λG=>
 ag m (row [VI 0,VI 0] 201) λe N=>
 aX N e ([VI G.1,VI G.2]) λt=>
 aH (.int .i64) t (e.add 0) λX=>
 gy X 0 2 t λab n=>
 aM (mK 5 (λb (r:Bool)=>b 3=VA a1/\b 5=VI c/\b 6=VA e/\b 47=Sl.v d/\b 48=VI (d.len:Int)/\b 49=VI c/\b 63=VB r) (λr g=>
 aM (mK 10 (λb (s:Bool)=>b 3=VA a1/\b 47=Sl.v d/\b 48=VI (d.len:Int)/\b 49=VI c/\b 74=VB s) (λs u=>
 aJ s
 (Q false u)
 (h (IntKind.wrap .i64 (c+1)) u)))
 λF=>
 aJ r
 (F true g)
 (aH (.int .i64) g (e.add 0) λY=>
 aH (.int .i64) g ((a1.add 6).add 0) λZ=>
 F ((Y==1) != (c==Z)) g)))
 λE=>
 aJ (!ab)
 (E true n)
 (aH (.int .i64) n (e.add 1) λaa=>
 gy aa 0 2147483647 n λac O=>
 E (!ac) O))
 (Q true m)))
 0 l)))
 λD=>
 aJ p
 (mP [31,32,33,34,35,36,37,38]<|
 D true k)
 (mP [31,32]<|
 aH Sl.v k (a1.add 13) λI=>
 mP [33,34,35]<|
 cU p0 k λad w=>
 ar w (a1.add 13) (Sl.v I)<|
 mP [36,37,38]<|
 D ((I.len:Int) != ad.2.1) w)))
 λC=>
 aJ o
 (mP [23,24,25,26,27,28,29]<|
 C true j)
 (mP [23,24]<|
 aH Sl.v j (a1.add 12) λJ=>
 mP [25,26]<|
 dg p0 j λae y=>
 ar y (a1.add 12) (Sl.v J)<|
 mP [27]<|
 rA J ae y λaf P=>
 mP [28,29]<|
 C (!af) P)))
 λB=>
 aJ cX
 (mP [15,16,17,18,19,20,21]<|
 B true i)
 (mP [15,16]<|
 aH Sl.v i (a1.add 11) λK=>
 mP [17,18]<|
 dg p0 i λah z=>
 ar z (a1.add 11) (Sl.v K)<|
 mP [19]<|
 rA K ah z λai R=>
 mP [20,21]<|
 B (!ai) R)))
 λA=>
 aJ s5
 (mP [8,9,10,11,12,13]<|
 A true M)
 (mP [8,9,10]<|
 aU (λ(x:(Int×Int×Int×Int×Int))=>[VI x.1,VI x.2.1,VI x.2.2.1,VI x.2.2.2.1,VI x.2.2.2.2]) M (a1.add 6) 5 λf=>
 mP [11]<|
 qC p0 (f.1,f.2.1,f.2.2.1,f.2.2.2.1,f.2.2.2.2) M λaj S=>
 mP [12,13]<|
 A (!aj) S)))
 λV=>
 aJ (Option.isNone p0)
 (mP [3,4,5,6]<|
 V true L)
 (mP [3]<|
 aU (λ(x:(Int×Int×Int×Int×Int×Int×Int×Int×Int×Int×Int×Sl×Sl×Sl))=>[VI x.1,VI x.2.1,VI x.2.2.1,VI x.2.2.2.1,VI x.2.2.2.2.1,VI x.2.2.2.2.2.1,VI x.2.2.2.2.2.2.1,VI x.2.2.2.2.2.2.2.1,VI x.2.2.2.2.2.2.2.2.1,VI x.2.2.2.2.2.2.2.2.2.1,VI x.2.2.2.2.2.2.2.2.2.2.1,Sl.v x.2.2.2.2.2.2.2.2.2.2.2.1,Sl.v x.2.2.2.2.2.2.2.2.2.2.2.2.1,Sl.v x.2.2.2.2.2.2.2.2.2.2.2.2.2]) L a1 14 λa=>
 mP [4]<|
 rh (a.1,a.2.1,a.2.2.1,a.2.2.2.1,a.2.2.2.2.1,a.2.2.2.2.2.1,a.2.2.2.2.2.2.1,a.2.2.2.2.2.2.2.1,a.2.2.2.2.2.2.2.2.1,a.2.2.2.2.2.2.2.2.2.1,a.2.2.2.2.2.2.2.2.2.2.1,a.2.2.2.2.2.2.2.2.2.2.2.1,a.2.2.2.2.2.2.2.2.2.2.2.2.1,a.2.2.2.2.2.2.2.2.2.2.2.2.2) L λak T=>
 mP [5,6]<|
 V (!ak) T)
def sR (p0:Sl) (H:PH) (Q:Int->PH->Prop):Prop:=
 bp (mL (λc (s1:Int×Int)=>c 2=VI s1.1/\c 5=Sl.v p0/\c 6=VI (p0.len:Int)/\c 7=VI s1.2) (λs1 b a=>
 aJ (decide (s1.2<(p0.len:Int)))
 (bX p0 1 s1.2 λd=>
 aH (.int .i64) b d λe=>
 Cg s1.2<|
 a (ID .i64 s1.1 (wc .i64 e s1.2),IntKind.wrap .i64 (s1.2+1)) b)
 (Q s1.1 b)))
 (0,0) H
def lD (p0:Option Addr) (p1:(Int×Int×Int×Int×Int×Int×Int×Int×Int×Int×Int×Sl×Sl×Sl)) (H:PH) (Q:Sl->Int->PH->Prop):Prop:=
 ag H (row [VI p1.1,VI p1.2.1,VI p1.2.2.1,VI p1.2.2.2.1,VI p1.2.2.2.2.1,VI p1.2.2.2.2.2.1,VI p1.2.2.2.2.2.2.1,VI p1.2.2.2.2.2.2.2.1,VI p1.2.2.2.2.2.2.2.2.1,VI p1.2.2.2.2.2.2.2.2.2.1,VI p1.2.2.2.2.2.2.2.2.2.2.1,Sl.v p1.2.2.2.2.2.2.2.2.2.2.2.1,Sl.v p1.2.2.2.2.2.2.2.2.2.2.2.2.1,Sl.v p1.2.2.2.2.2.2.2.2.2.2.2.2.2] 139) λa1 F=>
 aU (λ(x:(Int×Int×Int×Int×Int×Int×Int×Int×Int×Int×Int×Sl×Sl×Sl))=>[VI x.1,VI x.2.1,VI x.2.2.1,VI x.2.2.2.1,VI x.2.2.2.2.1,VI x.2.2.2.2.2.1,VI x.2.2.2.2.2.2.1,VI x.2.2.2.2.2.2.2.1,VI x.2.2.2.2.2.2.2.2.1,VI x.2.2.2.2.2.2.2.2.2.1,VI x.2.2.2.2.2.2.2.2.2.2.1,Sl.v x.2.2.2.2.2.2.2.2.2.2.2.1,Sl.v x.2.2.2.2.2.2.2.2.2.2.2.2.1,Sl.v x.2.2.2.2.2.2.2.2.2.2.2.2.2]) F a1 14 λb=>
 vp p0 (b.1,b.2.1,b.2.2.1,b.2.2.2.1,b.2.2.2.2.1,b.2.2.2.2.2.1,b.2.2.2.2.2.2.1,b.2.2.2.2.2.2.2.1,b.2.2.2.2.2.2.2.2.1,b.2.2.2.2.2.2.2.2.2.1,b.2.2.2.2.2.2.2.2.2.2.1,b.2.2.2.2.2.2.2.2.2.2.2.1,b.2.2.2.2.2.2.2.2.2.2.2.2.1,b.2.2.2.2.2.2.2.2.2.2.2.2.2) F λy7 L=>
 aJ (!y7)
 (Q Sl.nil 1 L)
 (dq p0 L λaq H9=>
 qL (IntKind.wrap .i64 (64*aq)) H9 λa D=>
 bV D (row [VI 75,VI 67] 3) 2 λT E=>
 bt a 1 T E λay i=>
 aH (.int .i64) i (a1.add 0) λac=>
 aH (.int .i64) i (a1.add 1) λad=>
 bV i (row [VI ac,VI ad] 3) 2 λU G=>
 bt a 4 U G λaz n=>
 aH (.int .i64) n (a1.add 2) λae=>
 bV n (row [VI ae] 3) 1 λV I=>
 bt a 1 V I λaA d=>
 aH (.int .i64) d (a1.add 3) λaf=>
 aH (.int .i64) d (a1.add 4) λah=>
 aH (.int .i64) d (a1.add 5) λai=>
 bV d (row [VI af,VI ah,VI ai] 3) 3 λX J=>
 bt a 4 X J λaB j=>
 aH (.int .i64) j ((a1.add 6).add 0) λaj=>
 aH (.int .i64) j ((a1.add 6).add 1) λak=>
 bV j (row [VI aj,VI ak] 3) 2 λY K=>
 bt a 1 Y K λaC e=>
 aH (.int .i64) e ((a1.add 6).add 2) λal=>
 aH (.int .i64) e ((a1.add 6).add 3) λam=>
 aH (.int .i64) e ((a1.add 6).add 4) λan=>
 bV e (row [VI al,VI am,VI an] 3) 3 λZ M=>
 bt a 4 Z M λaD k=>
 mP [0,1,2]<|
 aH Sl.v k (a1.add 11) λao=>
 mP [4,5]<|
 aH Sl.v k (a1.add 12) λr=>
 mP [3]<|
 sR ao k λau o=>
 ar o (a1.add 12) (Sl.v r)<|
 mP [6]<|
 sR r o λav N=>
 mP [7]<|
 bV N (row [VI au,VI av] 3) 2 λaa O=>
 mP [8]<|
 bt a 1 aa O λaE p=>
 aH Sl.v p (a1.add 13) λf=>
 bp (mL (λρ (c:Int)=>ρ 6=VP a/\ρ 72=Sl.v f/\ρ 73=VI (f.len:Int)/\ρ 74=VI c) (λc l g=>
 aJ (decide (c<(f.len:Int)))
 (bX f 2 c λS=>
 aU (λ(x:(Int×Int))=>[VI x.1,VI x.2]) l S 2 λs=>
 ag l (row [VI 0,VI 0] 201) λm P=>
 aX P m ([VI s.1,VI s.2]) λq=>
 aH (.int .i64) q (m.add 0) λap=>
 bV q (row [VI ap] 3) 1 λab R=>
 bt a 1 ab R λaw h=>
 aH (.int .i64) h (m.add 1) λA=>
 bV h (row [VI A] 3) 1 λz t=>
 bt a 4 z t λax u=>
 g (IntKind.wrap .i64 (c+1)) u)
 (fy a l λB w=>
 mF B w λC y=>
 Q C 0 y)))
 0 p)
def Ct (p0:Int) (p1:Int) (H:PH) (Q:Int->Int->PH->Prop):Prop:=
 Q (IntKind.wrap .u32 (g8 .u64 (IntKind.wrap .u64 ((IntKind.wrap .u64 p0)*(IntKind.wrap .u64 p1))) 32)) (IntKind.wrap .u32 (IntKind.wrap .u64 ((IntKind.wrap .u64 p0)*(IntKind.wrap .u64 p1)))) H
def vt (p0:Int) (p1:Int) (H:PH) (Q:Int->Int->PH->Prop):Prop:=
 Q (IntKind.wrap .u64 ((IntKind.wrap .u64 ((IntKind.wrap .u64 ((g8 .u64 p0 32)*(g8 .u64 p1 32)))+(g8 .u64 (IntKind.wrap .u64 ((IntKind.wrap .u64 ((g8 .u64 p0 32)*(kE .u64 p1 4294967295)))+(g8 .u64 (IntKind.wrap .u64 ((kE .u64 p0 4294967295)*(kE .u64 p1 4294967295))) 32))) 32)))+(g8 .u64 (IntKind.wrap .u64 ((kE .u64 (IntKind.wrap .u64 ((IntKind.wrap .u64 ((g8 .u64 p0 32)*(kE .u64 p1 4294967295)))+(g8 .u64 (IntKind.wrap .u64 ((kE .u64 p0 4294967295)*(kE .u64 p1 4294967295))) 32))) 4294967295)+(IntKind.wrap .u64 ((kE .u64 p0 4294967295)*(g8 .u64 p1 32))))) 32))) (IntKind.wrap .u64 (p0*p1)) H
def wm (p0:Int) (p1:Int) (H:PH) (Q:Int->Int->PH->Prop):Prop:=
 vt p0 p1 H λa b H1=>
 Q a b H1
def fu (p0:Sl) (p1:Int) (H:PH) (Q:Sl->PH->Prop):Prop:=
 aM (mK 1 (λd (s1:Unit)=>d 0=Sl.v p0/\d 1=VI p1) (λs1 u=>
 wm (IntKind.wrap .u64 (p0.len:Int)) (IntKind.wrap .u64 p1) u λx e n=>
 aM (mK 3 (λd (h:Bool)=>d 0=Sl.v p0/\d 6=.int .u64 e/\d 26=VB h) (λh i=>
 aM (mK 1 (λd (r:Unit)=>d 0=Sl.v p0/\d 6=.int .u64 e) (λr j=>
 xO j 3 8 [VI 0] (IntKind.wrap .i64 e) (IntKind.wrap .i64 e) λa k=>
 mZ k 1 a p0 λs l=>
 bp (mL (λd (b:Int)=>d 7=Sl.v a/\d 8=VI b) (λb f c=>
 aJ (decide (b<(a.len:Int)))
 (mP [0,1,2,3]<|
 kG a 1 b (a.len:Int) λp=>
 mP [4,5,6]<|
 kG a 1 0 b λq=>
 mP [7]<|
 mZ f 1 p q λt m=>
 mP [8,9]<|
 c (IntKind.wrap .i64 (b+t)) m)
 (Q a f)))
 s l))
 λo=>
 aJ h
 (False)
 (o () i)))
 λg=>
 aJ (decide (0<x))
 (g true n)
 (g (decide (9223372036854775807<e)) n)))
 λw=>
 aJ (decide (p1< 0))
 (False)
 (w () H)
def nq (p0:Sl) (H:PH) (Q:Sl->Int->PH->Prop):Prop:=
 aJ (decide (15<(p0.len:Int)))
 (Q Sl.nil 1 H)
 (qL 64 H λf p=>
 bp (mL (λd (s4:Int)=>d 4=VP f/\d 11=Sl.v p0/\d 12=VI (p0.len:Int)/\d 13=VI s4) (λs4 e b=>
 aJ (decide (s4<(p0.len:Int)))
 (bX p0 1 s4 λq=>
 aH (.int .i64) e q λa=>
 aM (mK 3 (λd (c:Bool)=>d 4=VP f/\d 6=VI a/\d 11=Sl.v p0/\d 12=VI (p0.len:Int)/\d 13=VI s4/\d 22=VB c) (λc g=>
 aJ c
 (Q Sl.nil 1 g)
 (bV g (row [VI (kE .i64 a 4294967295)] 3) 1 λm i=>
 bt f 4 m i λr j=>
 b (IntKind.wrap .i64 (s4+1)) j)))
 λh=>
 aJ (decide (a<(-1)))
 (h true e)
 (h (decide (4096<=a)) e))
 (fy f e λn k=>
 mF n k λo l=>
 Q o 0 l)))
 0 p)
def kI (p0:Option Addr) (p1:Bool) (p2:Int) (p3:Int) (H:PH) (Q:Int->PH->Prop):Prop:=
 aM (mK 4 (λa (s2:Bool)=>a 0=VP p0/\a 1=VB p1/\a 2=VI p2/\a 3=VI p3/\a 15=VB s2) (λs2 l=>
 aM (mK 7 (λa (e:Bool)=>a 0=VP p0/\a 1=VB p1/\a 2=VI p2/\a 3=VI p3/\a 23=VB e) (λe d=>
 aJ e
 (Q (-1) d)
 (aM (mK 1 (λa (b:Int)=>a 0=VP p0/\a 2=VI b/\a 3=VI p3) (λb f=>
 dq p0 f λo g=>
 Q (IntKind.wrap .i64 ((IntKind.wrap .i64 (2+(IntKind.wrap .i64 (2*(IntKind.wrap .i64 (o+b))))))+p3)) g))
 λc=>
 aJ p1
 (dg p0 d λp h=>
 c (IntKind.wrap .i64 (p2+p)) h)
 (c p2 d))))
 λn=>
 aJ s2
 (n true l)
 (dg p0 l λq i=>
 eK p2 0 (IntKind.wrap .i64 (q- 1)) i λr j=>
 n (!r) j)))
 λm=>
 aJ (Option.isNone p0)
 (m true H)
 (eK p3 0 1 H λs k=>
 m (!s) k)
def sS (p0:Option Addr) (p1:Bool) (H:PH) (Q:Sl->PH->Prop):Prop:=
 aM (mK 1 (λc (s1:Int)=>c 0=VP p0/\c 1=VB p1/\c 4=Sl.v Sl.nil/\c 5=VI s1) (λs1 t=>
 dg p0 t λs u=>
 bp (mL (λc (a:Sl×Int)=>c 0=VP p0/\c 1=VB p1/\c 4=Sl.v a.1/\c 5=VI s1/\c 12=VI s/\c 13=VI a.2) (λa d b=>
 aJ (decide (a.2<s))
 (cU p0 d λe f=>
 bV f (row [VI s1] 3) 1 λdF g=>
 fu dF (if 15<(IntKind.wrap .i64 (e.1-(IntKind.wrap .i64 (a.2*15)))) then 15 else(IntKind.wrap .i64 (e.1-(IntKind.wrap .i64 (a.2*15))))) g λp h=>
 nq p h λq w i=>
 kI p0 p1 a.2 0 i λr j=>
 bV j (row [VI r,Sl.v q] 144) 1 λn k=>
 fG k 144 2 32 [VI 0,.slice none 0 0] a.1 n λo l=>
 b (o,IntKind.wrap .i64 (a.2+1)) l)
 (Q a.1 d)))
 (Sl.nil,0) u))
 λm=>
 aJ p1
 (m (-1) H)
 (m 0 H)
def dh (p0:Sl) (p1:Int) (H:PH) (Q:Sl->PH->Prop):Prop:=
 aM (mK 1 (λg (s1:Unit)=>g 0=Sl.v p0/\g 1=VI p1) (λs1 b=>
 aM (mK 1 (λg (s5:Sl)=>g 0=Sl.v s5) (λs5 h=>
 Q s5 h))
 λc=>
 aJ (decide (0<(IntKind.wrap .i64 (p1-(IntKind.wrap .i64 ((p0.cap:Int)-(p0.len:Int)))))))
 (kG p0 2 0 (p0.cap:Int) λd=>
 FH b 144 2 32 [VI 0,.slice none 0 0] d (IntKind.wrap .i64 (p1-(IntKind.wrap .i64 ((p0.cap:Int)-(p0.len:Int))))) λe a=>
 kG e 2 0 (p0.len:Int) λf=>
 c f a)
 (c p0 b)))
 λi=>
 aJ (decide (p1< 0))
 (False)
 (i () H)
def fC (p0:Sl) (H:PH) (Q:Sl->PH->Prop):Prop:=
 bp (mL (λb (s1:Int×Int)=>b 0=Sl.v p0/\b 3=VI s1.1/\b 9=Sl.v p0/\b 10=VI (p0.len:Int)/\b 11=VI s1.2) (λs1 g e=>
 aJ (decide (s1.2<(p0.len:Int)))
 (aM (mB (λb (h:Int)=>b 0=Sl.v p0/\b 3=VI h/\b 9=Sl.v p0/\b 10=VI (p0.len:Int)/\b 11=VI s1.2) (λh p=>
 e (h,IntKind.wrap .i64 (s1.2+1)) p))
 λq=>
 bX p0 1 s1.2 λk=>
 aH Sl.v g k λf=>
 aJ (decide ((IntKind.wrap .i64 (s1.1+(f.len:Int)))< 0))
 (False)
 (q (IntKind.wrap .i64 (s1.1+(f.len:Int))) g))
 (dh Sl.nil s1.1 g λo i=>
 bp (mL (λb (a:Sl×Int)=>b 6=Sl.v a.1/\b 25=Sl.v p0/\b 26=VI (p0.len:Int)/\b 27=VI a.2) (λa d c=>
 aJ (decide (a.2<(p0.len:Int)))
 (bX p0 1 a.2 λl=>
 aH Sl.v d l λn=>
 fG d 144 2 32 [VI 0,.slice none 0 0] a.1 n λm j=>
 c (m,IntKind.wrap .i64 (a.2+1)) j)
 (Q a.1 d)))
 (o,0) i)))
 (0,0) H
def ig (p0:Option Addr) (p1:Int) (H:PH) (Q:Int->PH->Prop):Prop:=
 aM (mK 4 (λg (s2:Bool)=>g 0=VP p0/\g 1=VI p1/\g 11=VB s2) (λs2 a=>
 aJ s2
 (Q (-1) a)
 (dq p0 a λf d=>
 Q (IntKind.wrap .i64 (2+(IntKind.wrap .i64 (p1*f)))) d)))
 λb=>
 aJ (Option.isNone p0)
 (b true H)
 (eK p1 0 1 H λc e=>
 b (!c) e)
def kl (p0:Option Addr) (p1:Int) (H:PH) (Q:Int->PH->Prop):Prop:=
 aM (mK 4 (λe (s2:Bool)=>e 1=VI p1/\e 11=VB s2) (λs2 a=>
 aJ s2
 (Q (-1) a)
 (Q p1 a)))
 λb=>
 aJ (Option.isNone p0)
 (b true H)
 (eK p1 0 1 H λd c=>
 b (!d) c)
def kJ {γ:Type} (c0:Addr) (c1:Addr) (Y:List Value->γ->PH->(Nat->γ->PH->Prop)->Prop) (g:γ) (H:PH) (Q:Nat->γ->PH->Prop):Prop:=
 bp (λ(s1:Int×(Nat×γ)) (c:PH) (e:(Int×(Nat×γ))->PH->Prop)=>
 aH Sl.v c c0 λl=>
 aJ (decide (s1.1<(l.len:Int)))
 (aH (.int .i64) c c1 λf=>
 aH Sl.v c c0 λh=>
 kG h 1 s1.1 (h.len:Int) λb=>
 aH Sl.v c c0 λj=>
 PI j 1 s1.1 (IntKind.wrap .i64 (s1.1+(if(b.len:Int)<f then(b.len:Int) else f))) (IntKind.wrap .i64 (s1.1+(if(b.len:Int)<f then(b.len:Int) else f))) λi=>
 sP Y s1.2 [Sl.v i] c λa d=>
 aJ (!(a.1==0))
 (Q a.1 a.2 d)
 (aH (.int .i64) d c1 λk=>
 e (IntKind.wrap .i64 (s1.1+k),a) d))
 (Q s1.2.1 s1.2.2 c))
 (0,(0,g)) H
def fg (p0:Sl) (p1:Int) (H:PH) (Q:Value->PH->Prop):Prop:=
 ag H (row [Sl.v p0] 44) λa1 e=>
 ag e (row [VI p1] 3) λa c=>
 aH (.int .i64) c a λg=>
 aM (mK 1 (λh (f:Unit)=>h 2=VA a1/\h 3=VA a) (λf b=>
 Q (.func (.func 199) #[] #[.pointer (some a1),.pointer (some a)]) b))
 λd=>
 aJ (decide (g< 1))
 (False)
 (d () c)
def oh (p0:Option Addr) (H:PH) (Q:Int->PH->Prop):Prop:=
 aN p0 λa1=>
 aH (.int .i64) H (a1.add 5) λr=>
 aN p0 λp=>
 aX H (p.add 5) ([VI (IntKind.wrap .i64 (r+1))]) λc=>
 aN p0 λq=>
 aH .bool c (q.add 6) λm=>
 aM (mK 6 (λs (b:Bool)=>s 0=VP p0/\s 10=VP p0/\s 21=VB b) (λb f=>
 aN p0 λh=>
 aX f (h.add 6) ([.bool b]) λa=>
 aN p0 λi=>
 aH .bool a (i.add 6) λn=>
 aJ n
 (Q 3 a)
 (aN p0 λj=>
 aH (.int .i64) a (j.add 4) λe=>
 aN p0 λk=>
 aX a (k.add 4) ([VI (if(IntKind.wrap .i64 (e- 1))<(-1) then(-1) else(IntKind.wrap .i64 (e- 1)))]) λg=>
 Q 0 g)))
 λd=>
 aJ m
 (d true c)
 (aN p0 λl=>
 aH (.int .i64) c (l.add 4) λo=>
 d (o==0) c)
def fQ (p0:Option Addr) (p1:Int) (p2:Sl) (H:PH) (Q:Int->PH->Prop):Prop:=
 og p0 p1 H λu H1=>
 aM (λ(s4:Bool) (j:PH)=>
 aJ s4
 (Q 1 j)
 (oh p0 j λg c=>
 aJ (g != 0)
 (Q g c)
 (aN p0 λe=>
 aH Sl.v c (e.add 2) λf=>
 Nq p2 64 λk=>
 AF c k 64 λb=>
 Nj b 64<|
 Nj (pR [[VI p1],b]) 65<|
 bV c (row (pR [pR [[VI p1],b]]) 115) 1 λq d=>
 ar d (e.add 2) (Sl.v f)<|
 fG d 115 65 72 [VI 0,.int .u8 0,.int .u8 0,.int .u8 0,.int .u8 0,.int .u8 0,.int .u8 0,.int .u8 0,.int .u8 0,.int .u8 0,.int .u8 0,.int .u8 0,.int .u8 0,.int .u8 0,.int .u8 0,.int .u8 0,.int .u8 0,.int .u8 0,.int .u8 0,.int .u8 0,.int .u8 0,.int .u8 0,.int .u8 0,.int .u8 0,.int .u8 0,.int .u8 0,.int .u8 0,.int .u8 0,.int .u8 0,.int .u8 0,.int .u8 0,.int .u8 0,.int .u8 0,.int .u8 0,.int .u8 0,.int .u8 0,.int .u8 0,.int .u8 0,.int .u8 0,.int .u8 0,.int .u8 0,.int .u8 0,.int .u8 0,.int .u8 0,.int .u8 0,.int .u8 0,.int .u8 0,.int .u8 0,.int .u8 0,.int .u8 0,.int .u8 0,.int .u8 0,.int .u8 0,.int .u8 0,.int .u8 0,.int .u8 0,.int .u8 0,.int .u8 0,.int .u8 0,.int .u8 0,.int .u8 0,.int .u8 0,.int .u8 0,.int .u8 0,.int .u8 0] f q λr h=>
 aN p0 λl=>
 aX h (l.add 2) ([Sl.v r]) λa=>
 aN p0 λm=>
 aH Sl.v a (m.add 1) λs=>
 Nq p2 64 λn=>
 AF a n 64 λt=>
 bX s 64 p1 λo=>
 Bu a o 64 t λi=>
 Q 0 i)))
 λp=>
 aJ (!u)
 (p true H1)
 (p ((p2.len:Int) != 64) H1)
def vH (p0:Option Addr) (p1:Int) (p2:Sl) (H:PH) (Q:Int->PH->Prop):Prop:=
 ag H (row [.pointer p0] 31) λa1 u=>
 ag u (row [VI p1] 3) λi w=>
 ag w (row [VI 0] 32) λd x=>
 fg p2 64 x λt k=>
 iH Tryz.prog t (λ(j:List Value) (y:Unit) (a:PH) (g:Nat->Unit->PH->Prop)=>
 ∃(f:Sl),j=[Sl.v f]/\
 aH .pointer a a1 λo=>
 aH (.int .i64) a i λp=>
 fQ o p f a λh b=>
 aJ (h != 0)
 (aX b d ([VI h]) λl=>
 g 1 () l)
 (aH (.int .i64) b i λq=>
 aX b i ([VI (IntKind.wrap .i64 (q+1))]) λm=>
 g 0 () m)) () k λn z c=>
 aJ (n==1)
 (aH (.int .i64) c d λs=>
 Q s c)
 (aX c d ([VI 0]) λe=>
 aH (.int .i64) e d λr=>
 Q r e)
def fR (p0:Option Addr) (H:PH) (Q:Int->PH->Prop):Prop:=
 aJ (Option.isNone p0)
 (Q 1 H)
 (oh p0 H λs g=>
 aJ (s != 0)
 (Q s g)
 (aN p0 λu=>
 aH Sl.v g (u.add 2) λf=>
 bp (mL (λt (e:Int)=>t 0=VP p0/\t 16=Sl.v f/\t 17=VI (f.len:Int)/\t 18=VI e) (λe c b=>
 aJ (decide (e<(f.len:Int)))
 (bX f 65 e λk=>
 AF c k 65 λo=>
 ag c (row [VI 0,.int .u8 0,.int .u8 0,.int .u8 0,.int .u8 0,.int .u8 0,.int .u8 0,.int .u8 0,.int .u8 0,.int .u8 0,.int .u8 0,.int .u8 0,.int .u8 0,.int .u8 0,.int .u8 0,.int .u8 0,.int .u8 0,.int .u8 0,.int .u8 0,.int .u8 0,.int .u8 0,.int .u8 0,.int .u8 0,.int .u8 0,.int .u8 0,.int .u8 0,.int .u8 0,.int .u8 0,.int .u8 0,.int .u8 0,.int .u8 0,.int .u8 0,.int .u8 0,.int .u8 0,.int .u8 0,.int .u8 0,.int .u8 0,.int .u8 0,.int .u8 0,.int .u8 0,.int .u8 0,.int .u8 0,.int .u8 0,.int .u8 0,.int .u8 0,.int .u8 0,.int .u8 0,.int .u8 0,.int .u8 0,.int .u8 0,.int .u8 0,.int .u8 0,.int .u8 0,.int .u8 0,.int .u8 0,.int .u8 0,.int .u8 0,.int .u8 0,.int .u8 0,.int .u8 0,.int .u8 0,.int .u8 0,.int .u8 0,.int .u8 0,.int .u8 0] 115) λd h=>
 Bu h d 65 o λa=>
 mP [0,1]<|
 aN p0 λl=>
 mP [2,3]<|
 aH Sl.v a (l.add 0) λp=>
 mP [4,5]<|
 aH (.int .i64) a (d.add 0) λq=>
 mP [6,7]<|
 AF a (d.add 1) 64 λr=>
 mP [8]<|
 bX p 64 q λm=>
 mP [9]<|
 Bu a m 64 r λi=>
 b (IntKind.wrap .i64 (e+1)) i)
 (aN p0 λn=>
 aX c (n.add 2) ([Sl.v Sl.nil]) λj=>
 Q 0 j)))
 0 g))
def ti (p0:Option Addr) (p1:(Int×Int×Int)) (p2:Int) (H:PH) (Q:Int->Int->PH->Prop):Prop:=
 ag H (row [VI p1.1,VI p1.2.1,VI p1.2.2] 26) λa1 H2=>
 aU (λ(x:(Int×Int×Int))=>[VI x.1,VI x.2.1,VI x.2.2]) H2 a1 3 λx4=>
 pU (x4.1,x4.2.1,x4.2.2) H2 λb y8 H6=>
 aM (λ(cX:Bool) (q:PH)=>
 aM (λ(aG:Bool) (r:PH)=>
 aM (λ(aI:Bool) (s:PH)=>
 aM (λ(aK:Bool) (t:PH)=>
 aJ aK
 (Q 0 1 t)
 (qw p0 t λE F ah=>
 ag ah (row [.slice none 0 0,.slice none 0 0] 126) λm ai=>
 aX ai m ([Sl.v E.1,Sl.v E.2]) λi=>
 aJ (F != 0)
 (Q 0 F i)
 (fW 2 m 1 0 λaz=>
 aH Sl.v i az λaL=>
 fW 2 m 1 1 λaA=>
 aH Sl.v i aA λaN=>
 qy aL aN i λe aW aY aj=>
 ag aj (row [VI 0,VI 0,VI 0,VI 0,VI 0] 130) λy ak=>
 aX ak y ([VI e.1,VI e.2.1,VI e.2.2.1,VI e.2.2.2.1,VI e.2.2.2.2]) λl=>
 aH (.int .i64) l (y.add 4) λd=>
 aU (λ(x:(Int×Int×Int))=>[VI x.1,VI x.2.1,VI x.2.2]) l a1 3 λo=>
 mG (o.1,o.2.1,o.2.2,p2,IntKind.wrap .i64 (d+1)) l λaO G u=>
 aJ (G != 0)
 (Q 0 G u)
 (uf b (IntKind.wrap .i64 (d+1)) u λa al=>
 lD b (a.1,a.2.1,a.2.2.1,a.2.2.2.1,a.2.2.2.2.1,a.2.2.2.2.2.1,a.2.2.2.2.2.2.1,a.2.2.2.2.2.2.2.1,a.2.2.2.2.2.2.2.2.1,a.2.2.2.2.2.2.2.2.2.1,a.2.2.2.2.2.2.2.2.2.2.1,a.2.2.2.2.2.2.2.2.2.2.2.1,a.2.2.2.2.2.2.2.2.2.2.2.2.1,a.2.2.2.2.2.2.2.2.2.2.2.2.2) al λaP I w=>
 aJ (I != 0)
 (Q 0 I w)
 (sS b false w λaQ am=>
 sS b true am λaR an=>
 bV an (row [Sl.v aQ,Sl.v aR] 141) 2 λaC ao=>
 fC aC ao λaS ap=>
 ig b 0 ap λaT aq=>
 ig b 1 aq λaV ar=>
 dq b ar λJ au=>
 xO au 5 1 [.int .u8 0] (IntKind.wrap .i64 (64*J)) (IntKind.wrap .i64 (64*J)) λaD av=>
 bV av (row [VI aT,Sl.v aP,VI aV,Sl.v aD] 144) 2 λaE aw=>
 fG aw 144 2 32 [VI 0,.slice none 0 0] aS aE λaF ax=>
 aM (λ(D:Sl) (ay:PH)=>
 bp (λ(c:Int×Int) (f:PH) (j:(Int×Int)->PH->Prop)=>
 aJ (decide (c.2<(D.len:Int)))
 (bX D 2 c.2 λU=>
 aU (λ(x:(Int×Sl))=>[VI x.1,Sl.v x.2]) f U 2 λn=>
 ag f (row [VI 0,.slice none 0 0] 144) λh K=>
 aX K h ([VI n.1,Sl.v n.2]) λg=>
 aH (.int .i64) g (h.add 0) λZ=>
 aH Sl.v g (h.add 1) λaa=>
 vH p0 Z aa g λp k=>
 aJ (p != 0)
 (Q 0 p k)
 (j (c.1,IntKind.wrap .i64 (c.2+1)) k))
 (fR p0 f λab L=>
 Q c.1 ab L))
 (IntKind.wrap .i64 (d+1),0) ay)
 λaB=>
 rV (sH 1 64 64)<|
 kl b (IntKind.wrap .i64 (1-(Int.tmod (IntKind.wrap .i64 (d+1)) 2))) ax λac M=>
 kl b (Int.tmod (IntKind.wrap .i64 (d+1)) 2) M λad N=>
 mC N (row (bz (64:Int).toNat [.int .u8 0]) 5) 64 64 λV O=>
 bV O (row [VI ac,Sl.v V,VI ad,Sl.v aO] 144) 2 λX P=>
 fG P 144 2 32 [VI 0,.slice none 0 0] aF X λY R=>
 aB Y R)))))
 λC=>
 aJ aI
 (C true s)
 (iw p0 s λae S=>
 iF b S λaf T=>
 C (decide (ae<af)) T))
 λB=>
 aJ aG
 (B true r)
 (B (decide (2147483647<p2)) r))
 λA=>
 aJ cX
 (A true q)
 (A (decide (p2< 0)) q))
 λz=>
 aJ (Option.isNone p0)
 (z true H6)
 (z (y8 != 0) H6)
def rB (p0:Option Addr) (p1:(Int×Int×Int)) (p2:Int) (H:PH) (Q:Int->PH->Prop):Prop:=
 ag H (row [VI p1.1,VI p1.2.1,VI p1.2.2] 26) λa1 b=>
 aU (λ(x:(Int×Int×Int))=>[VI x.1,VI x.2.1,VI x.2.2]) b a1 3 λa=>
 ti p0 (a.1,a.2.1,a.2.2) p2 b λe d c=>
 Q d c
def nF (p0:Option Addr) (H:PH) (Q:Int->PH->Prop):Prop:=
 aN p0 λa1=>
 aH .pointer H (a1.add 0) λF=>
 qw F H λB C D=>
 ag D (row [.slice none 0 0,.slice none 0 0] 126) λk E=>
 aX E k ([Sl.v B.1,Sl.v B.2]) λb=>
 aJ (C != 0)
 (Q C b)
 (fW 2 k 1 0 λn=>
 aH Sl.v b n λt=>
 fW 2 k 1 1 λo=>
 aH Sl.v b o λu=>
 qy t u b λa G j l=>
 aN p0 λp=>
 aX l (p.add 2) ([VI a.1,VI a.2.1,VI a.2.2.1,VI a.2.2.2.1,VI a.2.2.2.2]) λc=>
 aJ (j != 0)
 (Q j c)
 (aN p0 λq=>
 aU (λ(x:(Int×Int×Int))=>[VI x.1,VI x.2.1,VI x.2.2]) c ((q.add 2).add 0) 3 λe=>
 pU (e.1,e.2.1,e.2.2) c λy I m=>
 aN p0 λr=>
 aX m (r.add 1) ([.pointer y]) λd=>
 mP [0,1]<|
 aN p0 λs=>
 mP [2,3]<|
 aH .pointer d (s.add 0) λw=>
 mP [5,6]<|
 aN p0 λh=>
 mP [7,8]<|
 aH .pointer d (h.add 1) λi=>
 mP [4]<|
 iw w d λz f=>
 ar f (h.add 1) (.pointer i)<|
 mP [9]<|
 iF i f λA g=>
 mP [10]<|
 aJ (decide (z<A))
 (Q 2 g)
 (Q 0 g)))
def oB (p0:Option Addr) (p1:Int) (p2:Int) (H:PH) (Q:Sl->Int->PH->Prop):Prop:=
 bp (mL (λg (s1:Sl×Int)=>g 0=VP p0/\g 1=VI p1/\g 6=Sl.v s1.1/\g 11=VI p2/\g 12=VI s1.2) (λs1 d a=>
 aJ (decide (s1.2<p2))
 (aN p0 λh=>
 aH .pointer d (h.add 0) λi=>
 eQ i (IntKind.wrap .i64 (p1+s1.2)) d λf c b=>
 aJ (c != 0)
 (Q Sl.nil c b)
 (fG b 5 1 1 [.int .u8 0] s1.1 f λdF e=>
 a (dF,IntKind.wrap .i64 (s1.2+1)) e))
 (Q s1.1 0 d)))
 (Sl.nil,0) H
def cF (p0:Option Addr) (p1:Int) (H:PH) (Q:Int->PH->Prop):Prop:=
 ag H (row [.pointer p0] 315) λa1 a=>
 aH .pointer a (a1.add 0) λc=>
 ba c p1 a λd e b=>
 Q d b
def jz (p0:Option Addr) (p1:Int) (H:PH) (Q:Sl->PH->Prop):Prop:=
 ag H (row [.pointer p0] 315) λa1 f=>
 aU (λ(x:Option Addr)=>[.pointer x]) f a1 1 λk=>
 cF k 1 f λh j=>
 bp (mL (λi (a:Sl×Int)=>i 4=Sl.v a.1/\i 5=VI h/\i 9=VI p1/\i 10=VI a.2) (λa c b=>
 aJ (decide (a.2<p1))
 (Cg a.2<|
 bV c (row [VI (kE .i64 (g8 .i64 h a.2) 1)] 3) 1 λdF d=>
 fG d 3 1 8 [VI 0] a.1 dF λg e=>
 b (g,IntKind.wrap .i64 (a.2+1)) e)
 (Q a.1 c)))
 (Sl.nil,0) j
def qD (p0:Option Addr) (p1:Sl) (H:PH) (Q:(Int×Int×Int×Int×Int×Int×Int×Int×Int×Int×Int×Sl×Sl×Sl)->Int->PH->Prop):Prop:=
 ag H (row [VI 0,VI 0,VI 0,VI 0,VI 0,VI 0,VI 0,VI 0,VI 0,VI 0,VI 0,.slice none 0 0,.slice none 0 0,.slice none 0 0] 139) λa1 H2=>
 aJ (Option.isNone p0)
 (aU (λ(x:(Int×Int×Int×Int×Int×Int×Int×Int×Int×Int×Int×Sl×Sl×Sl))=>[VI x.1,VI x.2.1,VI x.2.2.1,VI x.2.2.2.1,VI x.2.2.2.2.1,VI x.2.2.2.2.2.1,VI x.2.2.2.2.2.2.1,VI x.2.2.2.2.2.2.2.1,VI x.2.2.2.2.2.2.2.2.1,VI x.2.2.2.2.2.2.2.2.2.1,VI x.2.2.2.2.2.2.2.2.2.2.1,Sl.v x.2.2.2.2.2.2.2.2.2.2.2.1,Sl.v x.2.2.2.2.2.2.2.2.2.2.2.2.1,Sl.v x.2.2.2.2.2.2.2.2.2.2.2.2.2]) H2 a1 14 λf=>
 aX H2 a1 ([VI f.1,VI f.2.1,VI f.2.2.1,VI f.2.2.2.1,VI f.2.2.2.2.1,VI f.2.2.2.2.2.1,VI f.2.2.2.2.2.2.1,VI f.2.2.2.2.2.2.2.1,VI f.2.2.2.2.2.2.2.2.1,VI f.2.2.2.2.2.2.2.2.2.1,VI f.2.2.2.2.2.2.2.2.2.2.1,Sl.v f.2.2.2.2.2.2.2.2.2.2.2.1,Sl.v f.2.2.2.2.2.2.2.2.2.2.2.2.1,Sl.v f.2.2.2.2.2.2.2.2.2.2.2.2.2]) λH7=>
 aU (λ(x:(Int×Int×Int×Int×Int×Int×Int×Int×Int×Int×Int×Sl×Sl×Sl))=>[VI x.1,VI x.2.1,VI x.2.2.1,VI x.2.2.2.1,VI x.2.2.2.2.1,VI x.2.2.2.2.2.1,VI x.2.2.2.2.2.2.1,VI x.2.2.2.2.2.2.2.1,VI x.2.2.2.2.2.2.2.2.1,VI x.2.2.2.2.2.2.2.2.2.1,VI x.2.2.2.2.2.2.2.2.2.2.1,Sl.v x.2.2.2.2.2.2.2.2.2.2.2.1,Sl.v x.2.2.2.2.2.2.2.2.2.2.2.2.1,Sl.v x.2.2.2.2.2.2.2.2.2.2.2.2.2]) H7 a1 14 λg=>
 Q (g.1,g.2.1,g.2.2.1,g.2.2.2.1,g.2.2.2.2.1,g.2.2.2.2.2.1,g.2.2.2.2.2.2.1,g.2.2.2.2.2.2.2.1,g.2.2.2.2.2.2.2.2.1,g.2.2.2.2.2.2.2.2.2.1,g.2.2.2.2.2.2.2.2.2.2.1,g.2.2.2.2.2.2.2.2.2.2.2.1,g.2.2.2.2.2.2.2.2.2.2.2.2.1,g.2.2.2.2.2.2.2.2.2.2.2.2.2) 1 H7)
 (lB p1 H2 λaT ax=>
 ag ax (row [.pointer none] 315) λa ay=>
 aX ay a ([.pointer aT]) λN=>
 aH .pointer N (a.add 0) λaN=>
 fI aN 2 N λa8 a9 B=>
 mP [0]<|
 aU (λ(x:Option Addr)=>[.pointer x]) B a 1 λaO=>
 mP [2]<|
 aU (λ(x:Option Addr)=>[.pointer x]) B a 1 λU=>
 mP [1]<|
 cF aO 4 B λaV O=>
 fU O a 1 ([.pointer U])<|
 mP [4,3]<|
 cF U 4 O λaW az=>
 mP [5]<|
 aX az (a1.add 0) ([VI aV]) λaA=>
 mP [6,7]<|
 aX aA (a1.add 1) ([VI aW]) λP=>
 aU (λ(x:Option Addr)=>[.pointer x]) P a 1 λaP=>
 cF aP 1 P λaY aB=>
 aX aB (a1.add 2) ([VI aY]) λp=>
 mP [0]<|
 aU (λ(x:Option Addr)=>[.pointer x]) p a 1 λaQ=>
 mP [2]<|
 aU (λ(x:Option Addr)=>[.pointer x]) p a 1 λV=>
 mP [4]<|
 aU (λ(x:Option Addr)=>[.pointer x]) p a 1 λJ=>
 mP [1]<|
 cF aQ 4 p λaZ C=>
 fU C a 1 ([.pointer J])<|
 fU C a 1 ([.pointer V])<|
 mP [6,3]<|
 cF V 4 C λa0 R=>
 fU R a 1 ([.pointer J])<|
 mP [5]<|
 cF J 4 R λa2 aC=>
 mP [7]<|
 aX aC (a1.add 3) ([VI aZ]) λaD=>
 mP [8,9]<|
 aX aD (a1.add 4) ([VI a0]) λaE=>
 mP [10,11]<|
 aX aE (a1.add 5) ([VI a2]) λD=>
 mP [0]<|
 aU (λ(x:Option Addr)=>[.pointer x]) D a 1 λaR=>
 mP [2]<|
 aU (λ(x:Option Addr)=>[.pointer x]) D a 1 λX=>
 mP [1]<|
 cF aR 1 D λa3 S=>
 fU S a 1 ([.pointer X])<|
 mP [4,5,3]<|
 cF X 1 S λa4 aF=>
 mP [6]<|
 aX aF ((a1.add 6).add 0) ([VI a3]) λaG=>
 mP [7,8,9]<|
 aX aG ((a1.add 6).add 1) ([VI a4]) λq=>
 mP [0]<|
 aU (λ(x:Option Addr)=>[.pointer x]) q a 1 λaS=>
 mP [2]<|
 aU (λ(x:Option Addr)=>[.pointer x]) q a 1 λY=>
 mP [4]<|
 aU (λ(x:Option Addr)=>[.pointer x]) q a 1 λK=>
 mP [1]<|
 cF aS 4 q λa5 E=>
 fU E a 1 ([.pointer K])<|
 fU E a 1 ([.pointer Y])<|
 mP [6,7,3]<|
 cF Y 4 E λa6 T=>
 fU T a 1 ([.pointer K])<|
 mP [5]<|
 cF K 4 T λa7 aI=>
 mP [8]<|
 aX aI ((a1.add 6).add 2) ([VI a5]) λaK=>
 mP [9,10,11]<|
 aX aK ((a1.add 6).add 3) ([VI a6]) λaL=>
 mP [12,13,14]<|
 aX aL ((a1.add 6).add 4) ([VI a7]) λF=>
 mP [0]<|
 aU (λ(x:Option Addr)=>[.pointer x]) F a 1 λZ=>
 mP [1,4]<|
 aU (λ(x:Option Addr)=>[.pointer x]) F a 1 λr=>
 mP [5,2]<|
 dg p0 F λal k=>
 fU k a 1 ([.pointer r])<|
 fU k a 1 ([.pointer Z])<|
 mP [3]<|
 jz Z al k λam s=>
 fU s a 1 ([.pointer r])<|
 mP [8,6]<|
 dg p0 s λan t=>
 fU t a 1 ([.pointer r])<|
 mP [7]<|
 jz r an t λao aa=>
 mP [9]<|
 aX aa (a1.add 11) ([Sl.v am]) λab=>
 mP [10,11]<|
 aX ab (a1.add 12) ([Sl.v ao]) λac=>
 cU p0 ac λL ad=>
 bp (mL (λM (i:Int)=>M 0=VP p0/\M 1=Sl.v p1/\M 4=VA a1/\M 6=VA a/\M 68=VI L.2.1/\M 69=VI i) (λi h n=>
 aJ (decide (i<L.2.1))
 (mP [0,1]<|
 aH Sl.v h (a1.add 13) λj=>
 mP [2]<|
 aU (λ(x:Option Addr)=>[.pointer x]) h a 1 λak=>
 mP [4]<|
 aU (λ(x:Option Addr)=>[.pointer x]) h a 1 λI=>
 mP [3]<|
 cF ak 1 h λap l=>
 fU l a 1 ([.pointer I])<|
 ar l (a1.add 13) (Sl.v j)<|
 mP [5]<|
 cF I 4 l λaq u=>
 ar u (a1.add 13) (Sl.v j)<|
 mP [6,7]<|
 bV u (row [VI ap,VI aq] 201) 1 λai w=>
 ar w (a1.add 13) (Sl.v j)<|
 mP [8]<|
 fG w 201 2 16 [VI 0,VI 0] j ai λaj ae=>
 mP [9,10]<|
 aX ae (a1.add 13) ([Sl.v aj]) λaf=>
 n (IntKind.wrap .i64 (i+1)) af)
 (aU (λ(x:(Int×Int×Int×Int×Int×Int×Int×Int×Int×Int×Int×Sl×Sl×Sl))=>[VI x.1,VI x.2.1,VI x.2.2.1,VI x.2.2.2.1,VI x.2.2.2.2.1,VI x.2.2.2.2.2.1,VI x.2.2.2.2.2.2.1,VI x.2.2.2.2.2.2.2.1,VI x.2.2.2.2.2.2.2.2.1,VI x.2.2.2.2.2.2.2.2.2.1,VI x.2.2.2.2.2.2.2.2.2.2.1,Sl.v x.2.2.2.2.2.2.2.2.2.2.2.1,Sl.v x.2.2.2.2.2.2.2.2.2.2.2.2.1,Sl.v x.2.2.2.2.2.2.2.2.2.2.2.2.2]) h a1 14 λb=>
 lD p0 (b.1,b.2.1,b.2.2.1,b.2.2.2.1,b.2.2.2.2.1,b.2.2.2.2.2.1,b.2.2.2.2.2.2.1,b.2.2.2.2.2.2.2.1,b.2.2.2.2.2.2.2.2.1,b.2.2.2.2.2.2.2.2.2.1,b.2.2.2.2.2.2.2.2.2.2.1,b.2.2.2.2.2.2.2.2.2.2.2.1,b.2.2.2.2.2.2.2.2.2.2.2.2.1,b.2.2.2.2.2.2.2.2.2.2.2.2.2) h λau av y=>
 aM (mK 5 (λM (o:Bool)=>M 4=VA a1/\M 95=VB o) (λo m=>
 aJ o
 (aX m a1 ([VI 0,VI 0,VI 0,VI 0,VI 0,VI 0,VI 0,VI 0,VI 0,VI 0,VI 0,Sl.v Sl.nil,Sl.v Sl.nil,Sl.v Sl.nil]) λz=>
 aU (λ(x:(Int×Int×Int×Int×Int×Int×Int×Int×Int×Int×Int×Sl×Sl×Sl))=>[VI x.1,VI x.2.1,VI x.2.2.1,VI x.2.2.2.1,VI x.2.2.2.2.1,VI x.2.2.2.2.2.1,VI x.2.2.2.2.2.2.1,VI x.2.2.2.2.2.2.2.1,VI x.2.2.2.2.2.2.2.2.1,VI x.2.2.2.2.2.2.2.2.2.1,VI x.2.2.2.2.2.2.2.2.2.2.1,Sl.v x.2.2.2.2.2.2.2.2.2.2.2.1,Sl.v x.2.2.2.2.2.2.2.2.2.2.2.2.1,Sl.v x.2.2.2.2.2.2.2.2.2.2.2.2.2]) z a1 14 λc=>
 Q (c.1,c.2.1,c.2.2.1,c.2.2.2.1,c.2.2.2.2.1,c.2.2.2.2.2.1,c.2.2.2.2.2.2.1,c.2.2.2.2.2.2.2.1,c.2.2.2.2.2.2.2.2.1,c.2.2.2.2.2.2.2.2.2.1,c.2.2.2.2.2.2.2.2.2.2.1,c.2.2.2.2.2.2.2.2.2.2.2.1,c.2.2.2.2.2.2.2.2.2.2.2.2.1,c.2.2.2.2.2.2.2.2.2.2.2.2.2) 2 z)
 (aU (λ(x:(Int×Int×Int×Int×Int×Int×Int×Int×Int×Int×Int×Sl×Sl×Sl))=>[VI x.1,VI x.2.1,VI x.2.2.1,VI x.2.2.2.1,VI x.2.2.2.2.1,VI x.2.2.2.2.2.1,VI x.2.2.2.2.2.2.1,VI x.2.2.2.2.2.2.2.1,VI x.2.2.2.2.2.2.2.2.1,VI x.2.2.2.2.2.2.2.2.2.1,VI x.2.2.2.2.2.2.2.2.2.2.1,Sl.v x.2.2.2.2.2.2.2.2.2.2.2.1,Sl.v x.2.2.2.2.2.2.2.2.2.2.2.2.1,Sl.v x.2.2.2.2.2.2.2.2.2.2.2.2.2]) m a1 14 λd=>
 aX m a1 ([VI d.1,VI d.2.1,VI d.2.2.1,VI d.2.2.2.1,VI d.2.2.2.2.1,VI d.2.2.2.2.2.1,VI d.2.2.2.2.2.2.1,VI d.2.2.2.2.2.2.2.1,VI d.2.2.2.2.2.2.2.2.1,VI d.2.2.2.2.2.2.2.2.2.1,VI d.2.2.2.2.2.2.2.2.2.2.1,Sl.v d.2.2.2.2.2.2.2.2.2.2.2.1,Sl.v d.2.2.2.2.2.2.2.2.2.2.2.2.1,Sl.v d.2.2.2.2.2.2.2.2.2.2.2.2.2]) λA=>
 aU (λ(x:(Int×Int×Int×Int×Int×Int×Int×Int×Int×Int×Int×Sl×Sl×Sl))=>[VI x.1,VI x.2.1,VI x.2.2.1,VI x.2.2.2.1,VI x.2.2.2.2.1,VI x.2.2.2.2.2.1,VI x.2.2.2.2.2.2.1,VI x.2.2.2.2.2.2.2.1,VI x.2.2.2.2.2.2.2.2.1,VI x.2.2.2.2.2.2.2.2.2.1,VI x.2.2.2.2.2.2.2.2.2.2.1,Sl.v x.2.2.2.2.2.2.2.2.2.2.2.1,Sl.v x.2.2.2.2.2.2.2.2.2.2.2.2.1,Sl.v x.2.2.2.2.2.2.2.2.2.2.2.2.2]) A a1 14 λe=>
 Q (e.1,e.2.1,e.2.2.1,e.2.2.2.1,e.2.2.2.2.1,e.2.2.2.2.2.1,e.2.2.2.2.2.2.1,e.2.2.2.2.2.2.2.1,e.2.2.2.2.2.2.2.2.1,e.2.2.2.2.2.2.2.2.2.1,e.2.2.2.2.2.2.2.2.2.2.1,e.2.2.2.2.2.2.2.2.2.2.2.1,e.2.2.2.2.2.2.2.2.2.2.2.2.1,e.2.2.2.2.2.2.2.2.2.2.2.2.2) 0 A)))
 λG=>
 aJ (av != 0)
 (G true y)
 (gx au p1 y λaw ah=>
 G (!aw) ah))))
 0 ad)
def si (p0:Option Addr) (p1:Sl) (p2:Sl) (H:PH) (Q:(Int×Int×Int×Int×Int×Int×Int×Int×Int×Int×Int×Sl×Sl×Sl)->Int->Int->PH->Prop):Prop:=
 ag H (row [VI 0,VI 0,VI 0,VI 0,VI 0,VI 0,VI 0,VI 0,VI 0,VI 0,VI 0,.slice none 0 0,.slice none 0 0,.slice none 0 0] 139) λa1 F=>
 qD p0 p1 F λh E G=>
 ag G (row [VI 0,VI 0,VI 0,VI 0,VI 0,VI 0,VI 0,VI 0,VI 0,VI 0,VI 0,.slice none 0 0,.slice none 0 0,.slice none 0 0] 139) λn I=>
 aX I n ([VI h.1,VI h.2.1,VI h.2.2.1,VI h.2.2.2.1,VI h.2.2.2.2.1,VI h.2.2.2.2.2.1,VI h.2.2.2.2.2.2.1,VI h.2.2.2.2.2.2.2.1,VI h.2.2.2.2.2.2.2.2.1,VI h.2.2.2.2.2.2.2.2.2.1,VI h.2.2.2.2.2.2.2.2.2.2.1,Sl.v h.2.2.2.2.2.2.2.2.2.2.2.1,Sl.v h.2.2.2.2.2.2.2.2.2.2.2.2.1,Sl.v h.2.2.2.2.2.2.2.2.2.2.2.2.2]) λy=>
 qD p0 p2 y λg l z=>
 ag z (row [VI 0,VI 0,VI 0,VI 0,VI 0,VI 0,VI 0,VI 0,VI 0,VI 0,VI 0,.slice none 0 0,.slice none 0 0,.slice none 0 0] 139) λk A=>
 aX A k ([VI g.1,VI g.2.1,VI g.2.2.1,VI g.2.2.2.1,VI g.2.2.2.2.1,VI g.2.2.2.2.2.1,VI g.2.2.2.2.2.2.1,VI g.2.2.2.2.2.2.2.1,VI g.2.2.2.2.2.2.2.2.1,VI g.2.2.2.2.2.2.2.2.2.1,VI g.2.2.2.2.2.2.2.2.2.2.1,Sl.v g.2.2.2.2.2.2.2.2.2.2.2.1,Sl.v g.2.2.2.2.2.2.2.2.2.2.2.2.1,Sl.v g.2.2.2.2.2.2.2.2.2.2.2.2.2]) λi=>
 aJ (Option.isNone p0)
 (aX i a1 ([VI 0,VI 0,VI 0,VI 0,VI 0,VI 0,VI 0,VI 0,VI 0,VI 0,VI 0,Sl.v Sl.nil,Sl.v Sl.nil,Sl.v Sl.nil]) λq=>
 aU (λ(x:(Int×Int×Int×Int×Int×Int×Int×Int×Int×Int×Int×Sl×Sl×Sl))=>[VI x.1,VI x.2.1,VI x.2.2.1,VI x.2.2.2.1,VI x.2.2.2.2.1,VI x.2.2.2.2.2.1,VI x.2.2.2.2.2.2.1,VI x.2.2.2.2.2.2.2.1,VI x.2.2.2.2.2.2.2.2.1,VI x.2.2.2.2.2.2.2.2.2.1,VI x.2.2.2.2.2.2.2.2.2.2.1,Sl.v x.2.2.2.2.2.2.2.2.2.2.2.1,Sl.v x.2.2.2.2.2.2.2.2.2.2.2.2.1,Sl.v x.2.2.2.2.2.2.2.2.2.2.2.2.2]) q a1 14 λa=>
 Q (a.1,a.2.1,a.2.2.1,a.2.2.2.1,a.2.2.2.2.1,a.2.2.2.2.2.1,a.2.2.2.2.2.2.1,a.2.2.2.2.2.2.2.1,a.2.2.2.2.2.2.2.2.1,a.2.2.2.2.2.2.2.2.2.1,a.2.2.2.2.2.2.2.2.2.2.1,a.2.2.2.2.2.2.2.2.2.2.2.1,a.2.2.2.2.2.2.2.2.2.2.2.2.1,a.2.2.2.2.2.2.2.2.2.2.2.2.2) 0 1 q)
 (aM (mK 10 (λm (o:Bool)=>m 6=VA a1/\m 9=VA n/\m 11=VA k/\m 12=VI l/\m 42=VB o) (λo j=>
 aJ o
 (aU (λ(x:(Int×Int×Int×Int×Int×Int×Int×Int×Int×Int×Int×Sl×Sl×Sl))=>[VI x.1,VI x.2.1,VI x.2.2.1,VI x.2.2.2.1,VI x.2.2.2.2.1,VI x.2.2.2.2.2.1,VI x.2.2.2.2.2.2.1,VI x.2.2.2.2.2.2.2.1,VI x.2.2.2.2.2.2.2.2.1,VI x.2.2.2.2.2.2.2.2.2.1,VI x.2.2.2.2.2.2.2.2.2.2.1,Sl.v x.2.2.2.2.2.2.2.2.2.2.2.1,Sl.v x.2.2.2.2.2.2.2.2.2.2.2.2.1,Sl.v x.2.2.2.2.2.2.2.2.2.2.2.2.2]) j n 14 λb=>
 aX j a1 ([VI b.1,VI b.2.1,VI b.2.2.1,VI b.2.2.2.1,VI b.2.2.2.2.1,VI b.2.2.2.2.2.1,VI b.2.2.2.2.2.2.1,VI b.2.2.2.2.2.2.2.1,VI b.2.2.2.2.2.2.2.2.1,VI b.2.2.2.2.2.2.2.2.2.1,VI b.2.2.2.2.2.2.2.2.2.2.1,Sl.v b.2.2.2.2.2.2.2.2.2.2.2.1,Sl.v b.2.2.2.2.2.2.2.2.2.2.2.2.1,Sl.v b.2.2.2.2.2.2.2.2.2.2.2.2.2]) λr=>
 aU (λ(x:(Int×Int×Int×Int×Int×Int×Int×Int×Int×Int×Int×Sl×Sl×Sl))=>[VI x.1,VI x.2.1,VI x.2.2.1,VI x.2.2.2.1,VI x.2.2.2.2.1,VI x.2.2.2.2.2.1,VI x.2.2.2.2.2.2.1,VI x.2.2.2.2.2.2.2.1,VI x.2.2.2.2.2.2.2.2.1,VI x.2.2.2.2.2.2.2.2.2.1,VI x.2.2.2.2.2.2.2.2.2.2.1,Sl.v x.2.2.2.2.2.2.2.2.2.2.2.1,Sl.v x.2.2.2.2.2.2.2.2.2.2.2.2.1,Sl.v x.2.2.2.2.2.2.2.2.2.2.2.2.2]) r a1 14 λc=>
 Q (c.1,c.2.1,c.2.2.1,c.2.2.2.1,c.2.2.2.2.1,c.2.2.2.2.2.1,c.2.2.2.2.2.2.1,c.2.2.2.2.2.2.2.1,c.2.2.2.2.2.2.2.2.1,c.2.2.2.2.2.2.2.2.2.1,c.2.2.2.2.2.2.2.2.2.2.1,c.2.2.2.2.2.2.2.2.2.2.2.1,c.2.2.2.2.2.2.2.2.2.2.2.2.1,c.2.2.2.2.2.2.2.2.2.2.2.2.2) 0 0 r)
 (aJ (l==0)
 (aU (λ(x:(Int×Int×Int×Int×Int×Int×Int×Int×Int×Int×Int×Sl×Sl×Sl))=>[VI x.1,VI x.2.1,VI x.2.2.1,VI x.2.2.2.1,VI x.2.2.2.2.1,VI x.2.2.2.2.2.1,VI x.2.2.2.2.2.2.1,VI x.2.2.2.2.2.2.2.1,VI x.2.2.2.2.2.2.2.2.1,VI x.2.2.2.2.2.2.2.2.2.1,VI x.2.2.2.2.2.2.2.2.2.2.1,Sl.v x.2.2.2.2.2.2.2.2.2.2.2.1,Sl.v x.2.2.2.2.2.2.2.2.2.2.2.2.1,Sl.v x.2.2.2.2.2.2.2.2.2.2.2.2.2]) j k 14 λd=>
 aX j a1 ([VI d.1,VI d.2.1,VI d.2.2.1,VI d.2.2.2.1,VI d.2.2.2.2.1,VI d.2.2.2.2.2.1,VI d.2.2.2.2.2.2.1,VI d.2.2.2.2.2.2.2.1,VI d.2.2.2.2.2.2.2.2.1,VI d.2.2.2.2.2.2.2.2.2.1,VI d.2.2.2.2.2.2.2.2.2.2.1,Sl.v d.2.2.2.2.2.2.2.2.2.2.2.1,Sl.v d.2.2.2.2.2.2.2.2.2.2.2.2.1,Sl.v d.2.2.2.2.2.2.2.2.2.2.2.2.2]) λs=>
 aU (λ(x:(Int×Int×Int×Int×Int×Int×Int×Int×Int×Int×Int×Sl×Sl×Sl))=>[VI x.1,VI x.2.1,VI x.2.2.1,VI x.2.2.2.1,VI x.2.2.2.2.1,VI x.2.2.2.2.2.1,VI x.2.2.2.2.2.2.1,VI x.2.2.2.2.2.2.2.1,VI x.2.2.2.2.2.2.2.2.1,VI x.2.2.2.2.2.2.2.2.2.1,VI x.2.2.2.2.2.2.2.2.2.2.1,Sl.v x.2.2.2.2.2.2.2.2.2.2.2.1,Sl.v x.2.2.2.2.2.2.2.2.2.2.2.2.1,Sl.v x.2.2.2.2.2.2.2.2.2.2.2.2.2]) s a1 14 λe=>
 Q (e.1,e.2.1,e.2.2.1,e.2.2.2.1,e.2.2.2.2.1,e.2.2.2.2.2.1,e.2.2.2.2.2.2.1,e.2.2.2.2.2.2.2.1,e.2.2.2.2.2.2.2.2.1,e.2.2.2.2.2.2.2.2.2.1,e.2.2.2.2.2.2.2.2.2.2.1,e.2.2.2.2.2.2.2.2.2.2.2.1,e.2.2.2.2.2.2.2.2.2.2.2.2.1,e.2.2.2.2.2.2.2.2.2.2.2.2.2) 1 0 s)
 (aX j a1 ([VI 0,VI 0,VI 0,VI 0,VI 0,VI 0,VI 0,VI 0,VI 0,VI 0,VI 0,Sl.v Sl.nil,Sl.v Sl.nil,Sl.v Sl.nil]) λt=>
 aU (λ(x:(Int×Int×Int×Int×Int×Int×Int×Int×Int×Int×Int×Sl×Sl×Sl))=>[VI x.1,VI x.2.1,VI x.2.2.1,VI x.2.2.2.1,VI x.2.2.2.2.1,VI x.2.2.2.2.2.1,VI x.2.2.2.2.2.2.1,VI x.2.2.2.2.2.2.2.1,VI x.2.2.2.2.2.2.2.2.1,VI x.2.2.2.2.2.2.2.2.2.1,VI x.2.2.2.2.2.2.2.2.2.2.1,Sl.v x.2.2.2.2.2.2.2.2.2.2.2.1,Sl.v x.2.2.2.2.2.2.2.2.2.2.2.2.1,Sl.v x.2.2.2.2.2.2.2.2.2.2.2.2.2]) t a1 14 λf=>
 Q (f.1,f.2.1,f.2.2.1,f.2.2.2.1,f.2.2.2.2.1,f.2.2.2.2.2.1,f.2.2.2.2.2.2.1,f.2.2.2.2.2.2.2.1,f.2.2.2.2.2.2.2.2.1,f.2.2.2.2.2.2.2.2.2.1,f.2.2.2.2.2.2.2.2.2.2.1,f.2.2.2.2.2.2.2.2.2.2.2.1,f.2.2.2.2.2.2.2.2.2.2.2.2.1,f.2.2.2.2.2.2.2.2.2.2.2.2.2) 0 2 t))))
 λu=>
 aJ (E==0)
 (aM (mK 6 (λm (p:Bool)=>m 6=VA a1/\m 9=VA n/\m 11=VA k/\m 12=VI l/\m 32=VB (E==0)/\m 41=VB p) (λp B=>
 u p B))
 λw=>
 aJ (l != 0)
 (w true i)
 (aH (.int .i64) i (n.add 0) λC=>
 aH (.int .i64) i (k.add 0) λD=>
 w (decide (D<=C)) i))
 (u false i))
def vI (p0:Option Addr) (p1:Sl) (H:PH) (Q:Option Addr->PH->Prop):Prop:=
 cU p0 H λa H1=>
 aM (λ(s4:Bool) (s:PH)=>
 aJ s4
 (Q none s)
 (bp (λ(p:Int) (e:PH) (d:Int->PH->Prop)=>
 aJ (decide (p<(p1.len:Int)))
 (bX p1 2 p λz=>
 aU (λ(x:(Int×Int))=>[VI x.1,VI x.2]) e z 2 λo=>
 ag e (row [VI 0,VI 0] 201) λb q=>
 aX q b ([VI o.1,VI o.2]) λc=>
 aH (.int .i64) c (b.add 0) λL=>
 aM (λ(G:Bool) (f:PH)=>
 aM (λ(I:Bool) (g:PH)=>
 aM (λ(J:Bool) (h:PH)=>
 aJ J
 (Q none h)
 (d (IntKind.wrap .i64 (p+1)) h))
 λl=>
 aJ I
 (l true g)
 (aH (.int .i64) g (b.add 1) λM=>
 l (decide (2147483647<M)) g))
 λk=>
 aJ G
 (k true f)
 (aH (.int .i64) f (b.add 1) λN=>
 k (decide (N< 0)) f))
 λj=>
 aJ (decide (L< 0))
 (j true c)
 (aH (.int .i64) c (b.add 0) λO=>
 j (decide (2<O)) c))
 (aM (λ(n:Option Addr) (i:PH)=>
 aN n λA=>
 aH Sl.v i (A.add 1) λP=>
 mZ i 2 P p1 λR r=>
 Q n r)
 λC=>
 rV (sH 16 a.2.1 a.2.1)<|
 rV (sH 8 a.2.1 a.2.1)<|
 mC e (row (bz (a.2.1:Int).toNat [VI 0,VI 0]) 201) a.2.1 a.2.1 λE t=>
 mC t (row (bz (a.2.1:Int).toNat [VI 0]) 3) a.2.1 a.2.1 λF u=>
 ag u (row [.pointer p0,Sl.v E,Sl.v F] 258) λB w=>
 C (some B) w))
 0 s))
 λD=>
 aJ (Option.isNone p0)
 (D true H1)
 (aM (λ(K:Bool) (y:PH)=>
 D K y)
 λm=>
 aJ ((p1.len:Int) != 0)
 (m ((p1.len:Int) != a.2.1) H1)
 (m false H1))
def mz (p0:Int) (p1:Int) (p2:Int) (H:PH) (Q:Option Addr->PH->Prop):Prop:=
 aM (λ(s2:Bool) (g:PH)=>
 aM (λ(p:Bool) (h:PH)=>
 aM (λ(n:Bool) (a:PH)=>
 aJ n
 (Q none a)
 (xP p1<|
 rV (sH 1 (IntKind.wrap .i64 (Int.tdiv (IntKind.wrap .i64 ((IntKind.wrap .i64 (p0+p1))- 1)) p1)) (IntKind.wrap .i64 (Int.tdiv (IntKind.wrap .i64 ((IntKind.wrap .i64 (p0+p1))- 1)) p1)))<|
 bV a (row [VI p2] 3) 1 λl c=>
 fu l p0 c λo d=>
 mC d (row (bz (IntKind.wrap .i64 (Int.tdiv (IntKind.wrap .i64 ((IntKind.wrap .i64 (p0+p1))- 1)) p1):Int).toNat [.bool false]) 4) (IntKind.wrap .i64 (Int.tdiv (IntKind.wrap .i64 ((IntKind.wrap .i64 (p0+p1))- 1)) p1)) (IntKind.wrap .i64 (Int.tdiv (IntKind.wrap .i64 ((IntKind.wrap .i64 (p0+p1))- 1)) p1)) λm e=>
 ag e (row [Sl.v o,VI p1,Sl.v m] 308) λi f=>
 Q (some i) f))
 λb=>
 aJ p
 (b true h)
 (b (decide (65536<p1)) h))
 λk=>
 aJ s2
 (k true g)
 (k (decide (p1< 1)) g))
 λj=>
 aJ (decide (p0< 1))
 (j true H)
 (j (decide (65536<p0)) H)
def xV (p0:Int) (H:PH) (Q:Option Addr->PH->Prop):Prop:=
 aM (mK 3 (λi (s2:Bool)=>i 0=VI p0/\i 8=VB s2) (λs2 b=>
 aJ s2
 (Q none b)
 (mz p0 15 0 b λh f=>
 mz p0 15 (-1) f λe g=>
 ag g (row [.pointer h,.pointer e] 262) λc a=>
 Q (some c) a)))
 λd=>
 aJ (decide (p0< 1))
 (d true H)
 (d (decide (64<p0)) H)
def mf (p0:Option Addr) (H:PH) (Q:Int->PH->Prop):Prop:=
 ag H (row [.slice none 0 0,.slice none 0 0] 126) λa1 H2=>
 bp (λ(s4:Int) (e:PH) (i:Int->PH->Prop)=>
 aJ (decide (s4< 2))
 (aN p0 λa9=>
 aH .pointer e (a9.add 1) λS=>
 aN p0 λm=>
 aH .pointer e (m.add 1) λo=>
 ig S s4 e λaf j=>
 ar j (m.add 1) (.pointer o)<|
 dq o j λah w=>
 oB p0 af ah w λai q k=>
 aJ (q != 0)
 (Q q k)
 (fW 2 a1 1 s4 λF=>
 aX k F ([Sl.v ai]) λy=>
 i (IntKind.wrap .i64 (s4+1)) y))
 (aM (λ(c:Addr×Int×Int) (g:PH)=>
 aJ (c.2.2 != 0)
 (Q c.2.2 g)
 (aU (λ(x:(Int×Int×Int×Int×Int×Int×Int×Int×Int×Int×Int×Sl×Sl×Sl))=>[VI x.1,VI x.2.1,VI x.2.2.1,VI x.2.2.2.1,VI x.2.2.2.2.1,VI x.2.2.2.2.2.1,VI x.2.2.2.2.2.2.1,VI x.2.2.2.2.2.2.2.1,VI x.2.2.2.2.2.2.2.2.1,VI x.2.2.2.2.2.2.2.2.2.1,VI x.2.2.2.2.2.2.2.2.2.2.1,Sl.v x.2.2.2.2.2.2.2.2.2.2.2.1,Sl.v x.2.2.2.2.2.2.2.2.2.2.2.2.1,Sl.v x.2.2.2.2.2.2.2.2.2.2.2.2.2]) g c.1 14 λa=>
 aN p0 λG=>
 aX g (G.add 7) ([VI a.1,VI a.2.1,VI a.2.2.1,VI a.2.2.2.1,VI a.2.2.2.2.1,VI a.2.2.2.2.2.1,VI a.2.2.2.2.2.2.1,VI a.2.2.2.2.2.2.2.1,VI a.2.2.2.2.2.2.2.2.1,VI a.2.2.2.2.2.2.2.2.2.1,VI a.2.2.2.2.2.2.2.2.2.2.1,Sl.v a.2.2.2.2.2.2.2.2.2.2.2.1,Sl.v a.2.2.2.2.2.2.2.2.2.2.2.2.1,Sl.v a.2.2.2.2.2.2.2.2.2.2.2.2.2]) λz=>
 aN p0 λI=>
 aX z (I.add 21) ([VI c.2.1]) λd=>
 aH (.int .i64) d (c.1.add 2) λT=>
 aH (.int .i64) d (c.1.add 1) λU=>
 aH (.int .i64) d (c.1.add 3) λV=>
 aH (.int .i64) d (c.1.add 4) λX=>
 aH (.int .i64) d (c.1.add 5) λY=>
 aH (.int .i64) d (c.1.add 0) λZ=>
 aN p0 λJ=>
 aX d (J.add 24) ([VI T,VI U,VI V,VI X,VI Y,VI 0,VI Z,VI 0,VI 0,VI 0]) λf=>
 aN p0 λK=>
 aH .pointer f (K.add 1) λaa=>
 aH Sl.v f (c.1.add 13) λab=>
 aN p0 λn=>
 aH .pointer f (n.add 1) λp=>
 vI aa ab f λaj l=>
 ar l (n.add 1) (.pointer p)<|
 cU p l λak A=>
 xV ak.1 A λal B=>
 aN p0 λL=>
 aX B (L.add 22) ([.pointer aj]) λC=>
 aN p0 λM=>
 aX C (M.add 23) ([.pointer al]) λD=>
 Q 0 D))
 λR=>
 aN p0 λN=>
 aH .pointer e (N.add 1) λac=>
 fW 2 a1 1 0 λO=>
 aH Sl.v e O λad=>
 fW 2 a1 1 1 λP=>
 aH Sl.v e P λae=>
 si ac ad ae e λb t u E=>
 ag E (row [VI 0,VI 0,VI 0,VI 0,VI 0,VI 0,VI 0,VI 0,VI 0,VI 0,VI 0,.slice none 0 0,.slice none 0 0,.slice none 0 0] 139) λh r=>
 aX r h ([VI b.1,VI b.2.1,VI b.2.2.1,VI b.2.2.2.1,VI b.2.2.2.2.1,VI b.2.2.2.2.2.1,VI b.2.2.2.2.2.2.1,VI b.2.2.2.2.2.2.2.1,VI b.2.2.2.2.2.2.2.2.1,VI b.2.2.2.2.2.2.2.2.2.1,VI b.2.2.2.2.2.2.2.2.2.2.1,Sl.v b.2.2.2.2.2.2.2.2.2.2.2.1,Sl.v b.2.2.2.2.2.2.2.2.2.2.2.2.1,Sl.v b.2.2.2.2.2.2.2.2.2.2.2.2.2]) λs=>
 R (h,t,u) s))
 0 H2
def ug (p0:Sl) (H:PH) (Q:Sl->Int->PH->Prop):Prop:=
 lB p0 H λi H1=>
 bp (mL (λa (s3:Sl×Int)=>a 0=Sl.v p0/\a 2=Sl.v s3.1/\a 4=VP i/\a 11=VI s3.2) (λs3 n b=>
 aJ (decide (s3.2< 15))
 (ba i 4 n λu w o=>
 aM (mK 1 (λa (c:Int)=>a 0=Sl.v p0/\a 2=Sl.v s3.1/\a 4=VP i/\a 5=VI c/\a 11=VI s3.2) (λc j=>
 bV j (row [VI c] 3) 1 λp k=>
 fG k 3 1 8 [VI 0] s3.1 p λq l=>
 b (q,IntKind.wrap .i64 (s3.2+1)) l))
 λg=>
 aJ (u==4294967295)
 (g (-1) o)
 (g u o))
 (nq s3.1 n λr s e=>
 aM (mK 5 (λa (d:Bool)=>a 2=Sl.v s3.1/\a 37=VB d) (λd f=>
 aJ d
 (Q Sl.nil 2 f)
 (Q s3.1 0 f)))
 λh=>
 aJ (s != 0)
 (h true e)
 (gx r p0 e λt m=>
 h (!t) m))))
 (Sl.nil,0) H1
def cV (p0:Option Addr) (p1:Bool) (H:PH) (Q:Option Addr->PH->Prop):Prop:=
 aJ (Option.isNone p0)
 (Q none H)
 (aJ p1
 (aN p0 λa=>
 aH .pointer H (a.add 1) λc=>
 Q c H)
 (aN p0 λb=>
 aH .pointer H (b.add 0) λd=>
 Q d H))
def iy (p0:Option Addr) (H:PH) (Q:Int->PH->Prop):Prop:=
 aJ (Option.isNone p0)
 (Q 0 H)
 (aN p0 λa=>
 aH Sl.v H (a.add 2) λb=>
 Q (b.len:Int) H)
def kY (p0:Option Addr) (p1:Int) (H:PH) (Q:Sl->PH->Prop):Prop:=
 aM (mK 5 (λn (s2:Bool)=>n 0=VP p0/\n 1=VI p1/\n 12=VB s2) (λs2 a=>
 aJ s2
 (Q Sl.nil a)
 (mP [0,1]<|
 aN p0 λl=>
 mP [2,3]<|
 aH Sl.v a (l.add 0) λm=>
 mP [4,5,6]<|
 aN p0 λe=>
 mP [7,8]<|
 aH (.int .i64) a (e.add 1) λj=>
 mP [9,10,11,12,13]<|
 aN p0 λf=>
 mP [14,15]<|
 aH (.int .i64) a (f.add 1) λb=>
 mP [16,17,18]<|
 aN p0 λg=>
 mP [19,20]<|
 aH Sl.v a (g.add 0) λc=>
 mP [21,22,23]<|
 kG m 1 (IntKind.wrap .i64 (p1*j)) (if(c.len:Int)<(IntKind.wrap .i64 ((IntKind.wrap .i64 (p1+1))*b)) then(c.len:Int) else(IntKind.wrap .i64 ((IntKind.wrap .i64 (p1+1))*b))) λi=>
 mP [24]<|
 Q i a)))
 λh=>
 aJ (decide (p1< 0))
 (h true H)
 (iy p0 H λk d=>
 h (decide (k<=p1)) d)
def c6 (p0:Sl) (H:PH) (Q:Sl->PH->Prop):Prop:=
 aJ (Option.isNone p0.a)
 (Q Sl.nil H)
 (bV H (row [] 3) 0 λd b=>
 fG b 3 1 8 [VI 0] d p0 λr5 c=>
 Q r5 c)
def hG (p0:Option Addr) (p1:Int) (H:PH) (Q:Sl->PH->Prop):Prop:=
 kY p0 p1 H λb H1=>
 c6 b H1 λc a=>
 Q c a
def mH (p0:Option Addr) (p1:Bool) (p2:Int) (H:PH) (Q:Sl->PH->Prop):Prop:=
 cV p0 p1 H λb H1=>
 hG b p2 H1 λc a=>
 Q c a
def nG (p0:Option Addr) (p1:Int) (H:PH) (Q:Int->Int->Bool->PH->Prop):Prop:=
 aM (mK 9 (λo (s2:Bool)=>o 0=VP p0/\o 1=VI p1/\o 18=VB s2) (λs2 g=>
 aJ s2
 (Q 0 0 false g)
 (kH p0 g λm c=>
 mP [0,1,2]<|
 aN p0 λn=>
 mP [3,4,5]<|
 aH (.int .i64) c ((n.add 0).add 2) λa=>
 mP [6]<|
 xP a<|
 mP [7,8,9]<|
 aN p0 λh=>
 mP [10,11,12]<|
 aH (.int .i64) c ((h.add 0).add 2) λb=>
 mP [13]<|
 xP b<|
 mP [14,15,16]<|
 Q (IntKind.wrap .i64 (Int.tdiv (IntKind.wrap .i64 (p1-m)) a)) (Int.tmod (IntKind.wrap .i64 (p1-m)) b) true c)))
 λi=>
 aJ (Option.isNone p0)
 (i true H)
 (kH p0 H λj d=>
 iF p0 d λk e=>
 eK p1 j (IntKind.wrap .i64 (k- 1)) e λl f=>
 i (!l) f)
def oC (p0:Option Addr) (p1:Int) (H:PH) (Q:Bool->PH->Prop):Prop:=
 aN p0 λa1=>
 aH .pointer H (a1.add 1) λd=>
 nG d p1 H λf g e c=>
 aM (mK 3 (λh (cX:Bool)=>h 22=VB cX) (λcX b=>
 Q cX b))
 λa=>
 aJ e
 (a true c)
 (a (decide (p1< 1)) c)
def tM (p0:Int) (c0:Addr) (H:PH) (Q:Bool->PH->Prop):Prop:=
 aH .pointer H c0 λb=>
 oC b p0 H λc a=>
 Q (!c) a
def hZ (p0:Option Addr) (p1:Int) (p2:Sl) (H:PH) (Q:Bool->PH->Prop):Prop:=
 kY p0 p1 H λa H1=>
 aM (mK 6 (λi (s4:Bool)=>i 0=VP p0/\i 1=VI p1/\i 2=Sl.v p2/\i 7=Sl.v a/\i 20=VB s4) (λs4 d=>
 aJ s4
 (Q false d)
 (mZ d 1 a p2 λj b=>
 aN p0 λe=>
 aH Sl.v b (e.add 2) λh=>
 bX h 1 p1 λf=>
 aX b f ([.bool false]) λc=>
 Q true c)))
 λg=>
 aJ ((a.len:Int)==0)
 (g true H1)
 (g ((p2.len:Int) != (a.len:Int)) H1)
def pV (p0:Option Addr) (p1:Bool) (p2:Int) (p3:Sl) (H:PH) (Q:Bool->PH->Prop):Prop:=
 cV p0 p1 H λh H1=>
 hG h p2 H1 λe q=>
 aM (mK 5 (λa (o:Bool)=>a 1=VB p1/\a 2=VI p2/\a 3=Sl.v p3/\a 9=VP h/\a 10=VI 0/\a 11=VI (e.len:Int)/\a 28=VB o) (λo n=>
 aJ o
 (Q false n)
 (aM (mK 1 (λa (d:Int)=>a 2=VI p2/\a 3=Sl.v p3/\a 9=VP h/\a 10=VI d/\a 11=VI (e.len:Int)) (λd p=>
 kG p3 1 0 (e.len:Int) λb=>
 bp (mL (λa (c:Int)=>a 2=VI p2/\a 3=Sl.v p3/\a 9=VP h/\a 10=VI d/\a 11=VI (e.len:Int)/\a 32=Sl.v b/\a 33=VI (b.len:Int)/\a 34=VI c) (λc f g=>
 aJ (decide (c<(b.len:Int)))
 (bX b 1 c λs=>
 aH (.int .i64) f s λm=>
 aM (mK 3 (λa (i:Bool)=>a 2=VI p2/\a 3=Sl.v p3/\a 9=VP h/\a 10=VI d/\a 11=VI (e.len:Int)/\a 32=Sl.v b/\a 33=VI (b.len:Int)/\a 34=VI c/\a 44=VB i) (λi j=>
 aJ i
 (Q false j)
 (g (IntKind.wrap .i64 (c+1)) j)))
 λl=>
 aJ (decide (m<d))
 (l true f)
 (l (decide (4096<=m)) f))
 (kG p3 1 0 (e.len:Int) λu=>
 hZ h p2 u f λw r=>
 Q w r)))
 0 p))
 λk=>
 aJ p1
 (k (-1) n)
 (k 0 n))))
 λt=>
 aJ ((e.len:Int)==0)
 (t true q)
 (t (decide ((p3.len:Int)<(e.len:Int))) q)
def kZ (p0:Option Addr) (p1:Bool) (p2:Sl) (H:PH) (Q:Int->PH->Prop):Prop:=
 ag H (row [.pointer p0] 149) λa1 K=>
 bp (mL (λd (s4:Int)=>d 1=VB p1/\d 3=VA a1/\d 12=Sl.v p2/\d 13=VI (p2.len:Int)/\d 14=VI s4) (λs4 a f=>
 aJ (decide (s4<(p2.len:Int)))
 (bX p2 1 s4 λL=>
 aH (.int .i64) a L λw=>
 mP [0]<|
 aH .pointer a a1 λm=>
 mP [1]<|
 aN m λj=>
 mP [2,3]<|
 aH .pointer a (j.add 0) λn=>
 mP [4]<|
 aH .pointer a a1 λx=>
 mP [5]<|
 aN x λs=>
 mP [6,7]<|
 aH .pointer a (s.add 1) λy=>
 mP [8,9,10,11]<|
 kI y p1 s4 w a λD e=>
 ar e (j.add 0) (.pointer n)<|
 ar e a1 (.pointer m)<|
 mP [12]<|
 eQ n D e λE o h=>
 mP [13,14,15,16,17]<|
 aJ (o != 0)
 (Q o h)
 (ug E h λF p b=>
 aJ (p != 0)
 (Q p b)
 (aH .pointer b a1 λz=>
 aN z λt=>
 aH .pointer b (t.add 23) λA=>
 mH A p1 s4 b λG q=>
 kG F 1 0 (G.len:Int) λl=>
 cg l (.func (.func 139) #[] #[.pointer (some a1)]) q λI c=>
 aM (mK 10 (λd (g:Bool)=>d 1=VB p1/\d 3=VA a1/\d 12=Sl.v p2/\d 13=VI (p2.len:Int)/\d 14=VI s4/\d 69=VB g) (λg i=>
 aJ g
 (Q 2 i)
 (f (IntKind.wrap .i64 (s4+1)) i)))
 λk=>
 aJ I
 (k true c)
 (aH .pointer c a1 λB=>
 aN B λu=>
 aH .pointer c (u.add 23) λC=>
 pV C p1 s4 l c λJ r=>
 k (!J) r))))
 (Q 0 a)))
 0 K
def xW (p0:Option Addr) (p1:Option Addr) (p2:(Int×Int×Int×Int×Int)) (H:PH) (Q:Option Addr->PH->Prop):Prop:=
 ag H (row [VI p2.1,VI p2.2.1,VI p2.2.2.1,VI p2.2.2.2.1,VI p2.2.2.2.2] 136) λa1 e=>
 aM (mK 3 (λh (s5:Bool)=>h 0=VP p0/\h 1=VP p1/\h 5=VA a1/\h 12=VB s5) (λs5 c=>
 aJ s5
 (Q none c)
 (aU (λ(x:(Int×Int×Int×Int×Int))=>[VI x.1,VI x.2.1,VI x.2.2.1,VI x.2.2.2.1,VI x.2.2.2.2]) c a1 5 λa=>
 aU (λ(x:(Int×Int×Int×Int×Int))=>[VI x.1,VI x.2.1,VI x.2.2.1,VI x.2.2.2.1,VI x.2.2.2.2]) c a1 5 λb=>
 ag c (row [.pointer p0,.pointer p1,VI a.1,VI a.2.1,VI a.2.2.1,VI a.2.2.2.1,VI a.2.2.2.2,VI b.1,VI b.2.1,VI b.2.2.1,VI b.2.2.2.1,VI b.2.2.2.2,VI 0] 277) λf d=>
 Q (some f) d)))
 λg=>
 aJ (Option.isNone p0)
 (g true e)
 (g (Option.isNone p1) e)
def zI (p0:Option Addr) (p1:Option Addr) (p2:(Int×Int×Int×Int×Int)) (H:PH) (Q:Option Addr->PH->Prop):Prop:=
 ag H (row [VI p2.1,VI p2.2.1,VI p2.2.2.1,VI p2.2.2.2.1,VI p2.2.2.2.2] 136) λa1 e=>
 aM (mK 3 (λh (s5:Bool)=>h 0=VP p0/\h 1=VP p1/\h 5=VA a1/\h 12=VB s5) (λs5 c=>
 aJ s5
 (Q none c)
 (aU (λ(x:(Int×Int×Int×Int×Int))=>[VI x.1,VI x.2.1,VI x.2.2.1,VI x.2.2.2.1,VI x.2.2.2.2]) c a1 5 λa=>
 aU (λ(x:(Int×Int×Int×Int×Int))=>[VI x.1,VI x.2.1,VI x.2.2.1,VI x.2.2.2.1,VI x.2.2.2.2]) c a1 5 λb=>
 ag c (row [.pointer p0,.pointer p1,VI a.1,VI a.2.1,VI a.2.2.1,VI a.2.2.2.1,VI a.2.2.2.2,.bool false,VI b.1,VI b.2.1,VI b.2.2.1,VI b.2.2.2.1,VI b.2.2.2.2,VI 0] 317) λf d=>
 Q (some f) d)))
 λg=>
 aJ (Option.isNone p0)
 (g true e)
 (g (Option.isNone p1) e)
def fb (p0:Option Addr) (p1:Int) (H:PH) (Q:Int->PH->Prop):Prop:=
 lC p0 p1 H λd H1=>
 aJ (!d)
 (Q (-1) H1)
 (mP [0,2,3,4]<|
 aN p0 λb=>
 mP [5,6,7]<|
 aH (.int .i64) H1 ((b.add 0).add 2) λc=>
 mP [8,1]<|
 kH p0 H1 λe a=>
 ar a ((b.add 0).add 2) (VI c)<|
 mP [9,10]<|
 Q (IntKind.wrap .i64 (e+(IntKind.wrap .i64 (p1*c)))) a)
def kK (p0:Option Addr) (p1:Int) (H:PH) (Q:Sl->Bool->PH->Prop):Prop:=
 aN p0 λa1=>
 aH .pointer H (a1.add 0) λf=>
 eQ f p1 H λg h d=>
 aN p0 λe=>
 aX d (e.add 13) ([VI h]) λa=>
 mP [0,1,2]<|
 aN p0 λb=>
 mP [3,4]<|
 aH (.int .i64) a (b.add 13) λc=>
 mP [5,6,7]<|
 Q g (c==0) a
def ns (p0:Int) (p1:Int) (p2:Int) (H:PH) (Q:Bool->PH->Prop):Prop:=
 aM (mK 4 (λc (s2:Bool)=>c 14=VB s2) (λs2 b=>
 Q s2 b))
 λa=>
 aJ (decide (p1<=p0))
 (a (decide (p0<=p2)) H)
 (a false H)
def zJ (p0:(Int×Int×Int×Int)) (H:PH) (Q:Bool->PH->Prop):Prop:=
 ag H (row [VI p0.1,VI p0.2.1,VI p0.2.2.1,VI p0.2.2.2] 343) λa1 k=>
 aH (.int .i64) k (a1.add 0) λv=>
 ns v 0 31 k λw h=>
 aM (mK 4 (λj (i:Bool)=>j 1=VA a1/\j 10=VB i) (λi a=>
 aM (mK 4 (λj (c:Bool)=>j 1=VA a1/\j 15=VB c) (λc b=>
 aM (mK 4 (λj (d:Bool)=>j 20=VB d) (λd l=>
 Q d l))
 λg=>
 aJ c
 (aH (.int .i64) b (a1.add 3) λp=>
 ns p 0 4294967295 b λs m=>
 g s m)
 (g false b)))
 λf=>
 aJ i
 (aH (.int .i64) a (a1.add 2) λq=>
 ns q 1 2147483647 a λt n=>
 f t n)
 (f false a)))
 λe=>
 aJ w
 (aH (.int .i64) h (a1.add 1) λr=>
 ns r 1 2147483647 h λu o=>
 e u o)
 (e false h)
def qM (p0:(Int×Int×Int×Int)) (H:PH) (Q:Sl->Int->PH->Prop):Prop:=
 ag H (row [VI p0.1,VI p0.2.1,VI p0.2.2.1,VI p0.2.2.2] 343) λa1 e=>
 aU (λ(x:(Int×Int×Int×Int))=>[VI x.1,VI x.2.1,VI x.2.2.1,VI x.2.2.2]) e a1 4 λc=>
 zJ (c.1,c.2.1,c.2.2.1,c.2.2.2) e λt j=>
 aJ (!t)
 (Q Sl.nil 1 j)
 (qL 64 j λb k=>
 aH (.int .i64) k (a1.add 0) λn=>
 bV k (row [VI 75,VI 72,VI n] 3) 3 λl d=>
 bt b 1 l d λu a=>
 aH (.int .i64) a (a1.add 1) λo=>
 aH (.int .i64) a (a1.add 2) λp=>
 aH (.int .i64) a (a1.add 3) λq=>
 bV a (row [VI o,VI p,VI q] 3) 3 λm f=>
 bt b 4 m f λv g=>
 fy b g λr h=>
 mF r h λs i=>
 Q s 0 i)
def sT (p0:Sl) (H:PH) (Q:(Int×Int×Int×Int)->Int->PH->Prop):Prop:=
 ag H (row [VI 0,VI 0,VI 0,VI 0] 343) λa1 B=>
 lB p0 B λg C=>
 fI g 2 C λL M D=>
 ba g 1 D λt F E=>
 aX E (a1.add 0) ([VI t]) λm=>
 ba g 4 m λu G n=>
 aX n (a1.add 1) ([VI u]) λo=>
 ba g 4 o λv I p=>
 aX p (a1.add 2) ([VI v]) λq=>
 ba g 4 q λw J r=>
 aX r (a1.add 3) ([VI w]) λh=>
 aU (λ(x:(Int×Int×Int×Int))=>[VI x.1,VI x.2.1,VI x.2.2.1,VI x.2.2.2]) h a1 4 λa=>
 qM (a.1,a.2.1,a.2.2.1,a.2.2.2) h λy z i=>
 aM (mK 5 (λK (f:Bool)=>K 2=VA a1/\K 47=VB f) (λf e=>
 aJ f
 (aX e a1 ([VI 0,VI 0,VI 0,VI 0]) λj=>
 aU (λ(x:(Int×Int×Int×Int))=>[VI x.1,VI x.2.1,VI x.2.2.1,VI x.2.2.2]) j a1 4 λb=>
 Q (b.1,b.2.1,b.2.2.1,b.2.2.2) 2 j)
 (aU (λ(x:(Int×Int×Int×Int))=>[VI x.1,VI x.2.1,VI x.2.2.1,VI x.2.2.2]) e a1 4 λc=>
 aX e a1 ([VI c.1,VI c.2.1,VI c.2.2.1,VI c.2.2.2]) λk=>
 aU (λ(x:(Int×Int×Int×Int))=>[VI x.1,VI x.2.1,VI x.2.2.1,VI x.2.2.2]) k a1 4 λd=>
 Q (d.1,d.2.1,d.2.2.1,d.2.2.2) 0 k)))
 λl=>
 aJ (z != 0)
 (l true i)
 (gx y p0 i λA s=>
 l (!A) s)
def xX (p0:Sl) (p1:(Int×Int×Int×Int×Int)) (H:PH) (Q:Bool->PH->Prop):Prop:=
 ag H (row [VI p1.1,VI p1.2.1,VI p1.2.2.1,VI p1.2.2.2.1,VI p1.2.2.2.2] 136) λa1 y=>
 sT p0 y λk B z=>
 ag z (row [VI 0,VI 0,VI 0,VI 0] 343) λa A=>
 aX A a ([VI k.1,VI k.2.1,VI k.2.2.1,VI k.2.2.2]) λb=>
 aM (mK 6 (λf (g:Bool)=>f 3=VA a1/\f 5=VA a/\f 20=VB g) (λg c=>
 aM (mK 6 (λf (h:Bool)=>f 3=VA a1/\f 5=VA a/\f 27=VB h) (λh d=>
 aM (mK 6 (λf (i:Bool)=>f 3=VA a1/\f 5=VA a/\f 34=VB i) (λi e=>
 aM (mK 6 (λf (j:Bool)=>f 41=VB j) (λj p=>
 Q j p))
 λo=>
 aJ i
 (aH (.int .i64) e (a.add 1) λq=>
 aH (.int .i64) e (a1.add 4) λr=>
 o (decide (r<=q)) e)
 (o false e)))
 λn=>
 aJ h
 (aH (.int .i64) d (a.add 3) λs=>
 aH (.int .i64) d (a1.add 3) λt=>
 n (s==t) d)
 (n false d)))
 λm=>
 aJ g
 (aH (.int .i64) c (a.add 2) λu=>
 aH (.int .i64) c (a1.add 2) λv=>
 m (u==v) c)
 (m false c)))
 λl=>
 aJ (B==0)
 (aH (.int .i64) b (a.add 0) λw=>
 aH (.int .i64) b (a1.add 0) λx=>
 l (w==x) b)
 (l false b)
def qb (p0:Option Addr) (H:PH) (Q:(Int×Int×Int×Int×Int)->Bool->PH->Prop):Prop:=
 ag H (row [VI 0,VI 0,VI 0,VI 0,VI 0] 136) λa1 X=>
 aN p0 λa4=>
 aU (λ(x:(Int×Int×Int×Int×Int))=>[VI x.1,VI x.2.1,VI x.2.2.1,VI x.2.2.2.1,VI x.2.2.2.2]) X (a4.add 2) 5 λA=>
 aX X a1 ([VI A.1,VI A.2.1,VI A.2.2.1,VI A.2.2.2.1,VI A.2.2.2.2]) λH8=>
 aN p0 λad=>
 aX H8 (ad.add 13) ([VI 0]) λs=>
 mP [0,1]<|
 aN p0 λae=>
 mP [2,3]<|
 aH .pointer s (ae.add 1) λaj=>
 mP [4,5]<|
 aH (.int .i64) s (a1.add 0) λak=>
 mP [6]<|
 lC aj ak s λav t=>
 mP [7,8]<|
 aM (mQ 8191 [10] (λb (w:Bool)=>b 0=VP p0/\b 2=VA a1/\b 26=VB w) (λw o=>
 mP [13]<|
 aM (mQ 16777215 [19,15,10] (λb (y:Bool)=>b 0=VP p0/\b 2=VA a1/\b 37=VB y) (λy a=>
 aJ y
 (aU (λ(x:(Int×Int×Int×Int×Int))=>[VI x.1,VI x.2.1,VI x.2.2.1,VI x.2.2.2.1,VI x.2.2.2.2]) a a1 5 λh=>
 aX a a1 ([VI h.1,VI h.2.1,VI h.2.2.1,VI h.2.2.2.1,VI h.2.2.2.2]) λC=>
 aU (λ(x:(Int×Int×Int×Int×Int))=>[VI x.1,VI x.2.1,VI x.2.2.1,VI x.2.2.2.1,VI x.2.2.2.2]) C a1 5 λi=>
 Q (i.1,i.2.1,i.2.2.1,i.2.2.2.1,i.2.2.2.2) false C)
 (aH (.int .i64) a (a1.add 1) λal=>
 aJ (decide (0<al))
 (aU (λ(x:(Int×Int×Int×Int×Int))=>[VI x.1,VI x.2.1,VI x.2.2.1,VI x.2.2.2.1,VI x.2.2.2.2]) a a1 5 λj=>
 aX a a1 ([VI j.1,VI j.2.1,VI j.2.2.1,VI j.2.2.2.1,VI j.2.2.2.2]) λD=>
 aU (λ(x:(Int×Int×Int×Int×Int))=>[VI x.1,VI x.2.1,VI x.2.2.1,VI x.2.2.2.1,VI x.2.2.2.2]) D a1 5 λk=>
 Q (k.1,k.2.1,k.2.2.1,k.2.2.2.1,k.2.2.2.2) true D)
 (mP [0,1,2]<|
 aN p0 λaf=>
 mP [3,4]<|
 aH .pointer a (af.add 1) λam=>
 mP [5,6]<|
 aH (.int .i64) a (a1.add 0) λan=>
 mP [7]<|
 fb am an a λaw Y=>
 mP [8]<|
 kK p0 aw Y λB ax Z=>
 mP [9,10,11,12,13]<|
 sT B Z λq ay aa=>
 ag aa (row [VI 0,VI 0,VI 0,VI 0] 343) λc ab=>
 aX ab c ([VI q.1,VI q.2.1,VI q.2.2.1,VI q.2.2.2]) λE=>
 aM (mK 3 (λb (p:Bool)=>b 0=VP p0/\b 2=VA a1/\b 4=Sl.v B/\b 5=VA c/\b 64=VB p) (λp f=>
 aM (mK 10 (λb (g:Bool)=>b 2=VA a1/\b 5=VA c/\b 75=VB g) (λg e=>
 aM (mK 1 (λb (ai:Unit)=>b 2=VA a1/\b 3=VB g) (λai F=>
 aU (λ(x:(Int×Int×Int×Int×Int))=>[VI x.1,VI x.2.1,VI x.2.2.1,VI x.2.2.2.1,VI x.2.2.2.2]) F a1 5 λl=>
 aX F a1 ([VI l.1,VI l.2.1,VI l.2.2.1,VI l.2.2.2.1,VI l.2.2.2.2]) λG=>
 aU (λ(x:(Int×Int×Int×Int×Int))=>[VI x.1,VI x.2.1,VI x.2.2.1,VI x.2.2.2.1,VI x.2.2.2.2]) G a1 5 λm=>
 Q (m.1,m.2.1,m.2.2.1,m.2.2.2.1,m.2.2.2.2) g G))
 λM=>
 aJ g
 (aH (.int .i64) e (a1.add 0) λao=>
 aH (.int .i64) e (c.add 2) λap=>
 aH (.int .i64) e (c.add 3) λaq=>
 aH (.int .i64) e (c.add 1) λau=>
 aX e a1 ([VI ao,VI 1,VI ap,VI aq,VI au]) λac=>
 M () ac)
 (M () e)))
 λL=>
 aJ p
 (aN p0 λah=>
 aH .bool f (ah.add 7) λR=>
 aM (mK 4 (λb (n:Bool)=>b 2=VA a1/\b 5=VA c/\b 65=VB p/\b 74=VB n) (λn N=>
 L n N))
 λu=>
 aJ R
 (u true f)
 (aU (λ(x:(Int×Int×Int×Int×Int))=>[VI x.1,VI x.2.1,VI x.2.2.1,VI x.2.2.2.1,VI x.2.2.2.2]) f a1 5 λd=>
 xX B (d.1,d.2.1,d.2.2.1,d.2.2.2.1,d.2.2.2.2) f λU O=>
 u U O))
 (L false f)))
 λK=>
 aJ ax
 (K (ay==0) E)
 (K false E)))))
 λJ=>
 aJ w
 (mP [14,15,16,17,18,19,20,21,22,23]<|
 J true o)
 (mP [14,15]<|
 aH (.int .i64) o (a1.add 1) λz=>
 mP [16,17]<|
 aN p0 λP=>
 mP [18,19]<|
 aH .pointer o (P.add 1) λS=>
 mP [20]<|
 cU S o λV r=>
 ar r (a1.add 1) (VI z)<|
 mP [21,22,23]<|
 J (decide (V.2.2<=z)) r)))
 λI=>
 aJ (!av)
 (mP [9,10,11,12]<|
 I true t)
 (mP [9,10]<|
 aH (.int .i64) t (a1.add 1) λT=>
 mP [11,12]<|
 I (decide (T< 0)) t)
def jl (p0:Int) (p1:Int) (p2:Int) (H:PH) (Q:Bool->PH->Prop):Prop:=
 aM (mK 4 (λc (s2:Bool)=>c 14=VB s2) (λs2 b=>
 Q s2 b))
 λa=>
 aJ (decide (p1<=p0))
 (a (decide (p0<=p2)) H)
 (a false H)
def om (p0:Option Addr) (H:PH) (Q:Int->Int->Bool->PH->Prop):Prop:=
 fI p0 2 H λt u H1=>
 fI p0 12 H1 λv w r=>
 ba p0 1 r λb x s=>
 ba p0 1 s λa p d=>
 aM (mK 4 (λc (e:Bool)=>c 2=VI b/\c 3=VI a/\c 24=VI b/\c 25=VI a/\c 31=VB e) (λe h=>
 aM (mK 3 (λc (f:Bool)=>c 2=VI b/\c 3=VI a/\c 24=VI b/\c 25=VI a/\c 35=VB f) (λf i=>
 aM (mK 4 (λc (g:Bool)=>c 24=VI b/\c 25=VI a/\c 40=VB g) (λg m=>
 Q b a g m))
 λl=>
 aJ f
 (l (decide (a<=b)) i)
 (l false i)))
 λk=>
 aJ e
 (jl b 1 6 h λq n=>
 k q n)
 (k false h)))
 λj=>
 aJ p
 (N0 d t λo=>
 j (o.toList==(⟨#[75,82]⟩:ByteArray).toList) d)
 (j false d)
def uh (p0:Sl) (H:PH) (Q:Int->PH->Prop):Prop:=
 lB p0 H λf H1=>
 om f H1 λi e g c=>
 aM (mK 4 (λh (b:Bool)=>h 4=VI e/\h 19=VB b) (λb a=>
 aJ b
 (Q 0 a)
 (Q (IntKind.wrap .i64 (1+e)) a)))
 λd=>
 aJ (!g)
 (d true c)
 (d ((p0.len:Int) != 64) c)
def ll (p0:Int) (p1:Int) (p2:Int) (H:PH) (Q:Bool->PH->Prop):Prop:=
 aM (mK 4 (λc (s2:Bool)=>c 14=VB s2) (λs2 b=>
 Q s2 b))
 λa=>
 aJ (decide (p1<=p0))
 (a (decide (p0<=p2)) H)
 (a false H)
def tD (p0:(Int×Int×Int×Int)) (H:PH) (Q:Bool->PH->Prop):Prop:=
 ag H (row [VI p0.1,VI p0.2.1,VI p0.2.2.1,VI p0.2.2.2] 230) λa1 N=>
 aH (.int .i64) N (a1.add 1) λx4=>
 ll x4 0 63 N λu J=>
 aH (.int .i64) J (a1.add 0) λc=>
 aM (mK 1 (λb (cX:Bool)=>b 1=VA a1/\b 3=VB u/\b 8=VI c/\b 9=VB cX) (λcX d=>
 aJ cX
 (aM (mK 4 (λb (j:Bool)=>b 1=VA a1/\b 17=VB j) (λj e=>
 aM (mK 4 (λb (k:Bool)=>b 22=VB k) (λk O=>
 Q k O))
 λx=>
 aJ j
 (aH (.int .i64) e (a1.add 3) λY=>
 x (Y==0) e)
 (x false e)))
 λw=>
 aJ u
 (aH (.int .i64) d (a1.add 2) λZ=>
 w (Z==0) d)
 (w false d))
 (aM (mK 1 (λb (l:Bool)=>b 1=VA a1/\b 3=VB u/\b 8=VI c/\b 23=VB l) (λl a=>
 aJ l
 (aM (mK 7 (λb (m:Bool)=>b 1=VA a1/\b 34=VB m) (λm f=>
 aM (mK 4 (λb (n:Bool)=>b 39=VB n) (λn P=>
 Q n P))
 λA=>
 aJ m
 (aH (.int .i64) f (a1.add 3) λaa=>
 A (aa==0) f)
 (A false f)))
 λz=>
 aJ u
 (aH (.int .i64) a (a1.add 2) λab=>
 aH (.int .i64) a (a1.add 1) λac=>
 ll ab 1 (IntKind.wrap .i64 (64-ac)) a λak R=>
 z ak R)
 (z false a))
 (aJ (c==3)
 (aH (.int .i64) a (a1.add 1) λad=>
 aM (mK 4 (λb (o:Bool)=>b 1=VA a1/\b 49=VB o) (λo g=>
 aM (mK 4 (λb (p:Bool)=>b 54=VB p) (λp S=>
 Q p S))
 λC=>
 aJ o
 (aH (.int .i64) g (a1.add 3) λae=>
 ll ae 1 2147483647 g λal T=>
 C al T)
 (C false g)))
 λB=>
 aJ (ad==0)
 (aH (.int .i64) a (a1.add 2) λaf=>
 B (af==0) a)
 (B false a))
 (aJ (c==4)
 (aM (mK 4 (λb (q:Bool)=>b 1=VA a1/\b 62=VB q) (λq h=>
 aM (mK 4 (λb (r:Bool)=>b 67=VB r) (λr U=>
 Q r U))
 λE=>
 aJ q
 (aH (.int .i64) h (a1.add 3) λah=>
 ll ah 1 4095 h λam V=>
 E am V)
 (E false h)))
 λD=>
 aJ u
 (aH (.int .i64) a (a1.add 2) λai=>
 D (ai==0) a)
 (D false a))
 (aJ (c==7)
 (aH (.int .i64) a (a1.add 1) λaj=>
 aM (mK 4 (λb (s:Bool)=>b 1=VA a1/\b 77=VB s) (λs i=>
 aM (mK 4 (λb (t:Bool)=>b 82=VB t) (λt X=>
 Q t X))
 λG=>
 aJ s
 (aH (.int .i64) i (a1.add 3) λK=>
 ll K 0 31 i λM I=>
 G M I)
 (G false i)))
 λF=>
 aJ (aj==0)
 (aH (.int .i64) a (a1.add 2) λL=>
 F (L==0) a)
 (F false a))
 (Q false a))))))
 λy=>
 aJ (c==2)
 (y (c==2) d)
 (y (c==6) d))))
 λv=>
 aJ (c==1)
 (v (c==1) J)
 (v (c==5) J)
def qN (p0:Sl) (H:PH) (Q:Sl->Int->PH->Prop):Prop:=
 aJ (decide (6<(p0.len:Int)))
 (Q Sl.nil 1 H)
 (qL (IntKind.wrap .i64 (7*(p0.len:Int))) H λf z=>
 bp (mL (λy (s4:Int)=>y 4=VP f/\y 14=Sl.v p0/\y 15=VI (p0.len:Int)/\y 16=VI s4) (λs4 i e=>
 aJ (decide (s4<(p0.len:Int)))
 (bX p0 4 s4 λA=>
 aU (λ(x:(Int×Int×Int×Int))=>[VI x.1,VI x.2.1,VI x.2.2.1,VI x.2.2.2]) i A 4 λc=>
 ag i (row [VI 0,VI 0,VI 0,VI 0] 230) λa j=>
 aX j a ([VI c.1,VI c.2.1,VI c.2.2.1,VI c.2.2.2]) λg=>
 aU (λ(x:(Int×Int×Int×Int))=>[VI x.1,VI x.2.1,VI x.2.2.1,VI x.2.2.2]) g a 4 λd=>
 tD (d.1,d.2.1,d.2.2.1,d.2.2.2) g λu b=>
 aJ (!u)
 (Q Sl.nil 1 b)
 (aH (.int .i64) b (a.add 0) λq=>
 aH (.int .i64) b (a.add 1) λr=>
 aH (.int .i64) b (a.add 2) λs=>
 bV b (row [VI q,VI r,VI s] 3) 3 λo k=>
 bt f 1 o k λB h=>
 aH (.int .i64) h (a.add 3) λt=>
 bV h (row [VI t] 3) 1 λp l=>
 bt f 4 p l λC m=>
 e (IntKind.wrap .i64 (s4+1)) m))
 (fy f i λw n=>
 Q w 0 n)))
 0 z)
def ui (p0:Sl) (H:PH) (Q:Sl->Int->PH->Prop):Prop:=
 lB p0 H λb H1=>
 bp (mL (λf (s3:Sl)=>f 0=Sl.v p0/\f 2=Sl.v s3/\f 4=VP b) (λs3 A d=>
 aM (mK 4 (λf (l:Bool)=>f 0=Sl.v p0/\f 2=Sl.v s3/\f 4=VP b/\f 17=VB l) (λl g=>
 aJ l
 (ag g (row [VI 0,VI 0,VI 0,VI 0] 230) λa m=>
 ba b 1 m λE N n=>
 aX n (a.add 0) ([VI E]) λo=>
 ba b 1 o λF O p=>
 aX p (a.add 1) ([VI F]) λq=>
 ba b 1 q λG P r=>
 aX r (a.add 2) ([VI G]) λs=>
 ba b 4 s λI R t=>
 aX t (a.add 3) ([VI I]) λh=>
 aU (λ(x:(Int×Int×Int×Int))=>[VI x.1,VI x.2.1,VI x.2.2.1,VI x.2.2.2]) h a 4 λc=>
 bV h (row [VI c.1,VI c.2.1,VI c.2.2.1,VI c.2.2.2] 230) 1 λC u=>
 fG u 230 4 32 [VI 0,VI 0,VI 0,VI 0] s3 C λD w=>
 d D w)
 (qN s3 g λJ K i=>
 aM (mK 5 (λf (e:Bool)=>f 2=Sl.v s3/\f 58=VB e) (λe j=>
 aJ e
 (Q Sl.nil 2 j)
 (Q s3 0 j)))
 λk=>
 aJ (K != 0)
 (k true i)
 (gx J p0 i λL y=>
 k (!L) y))))
 λB=>
 aJ (decide ((s3.len:Int)< 6))
 (jR b A λM z=>
 B (decide (0<M)) z)
 (B false A)))
 Sl.nil H1
def nt (p0:(Int×Int×Int×Int)) (H:PH) (Q:Bool->PH->Prop):Prop:=
 ag H (row [VI p0.1,VI p0.2.1,VI p0.2.2.1,VI p0.2.2.2] 230) λa1 m=>
 aU (λ(x:(Int×Int×Int×Int))=>[VI x.1,VI x.2.1,VI x.2.2.1,VI x.2.2.2]) m a1 4 λe=>
 tD (e.1,e.2.1,e.2.2.1,e.2.2.2) m λk b=>
 aM (mK 14 (λi (j:Bool)=>i 19=VB j) (λj l=>
 Q j l))
 λf=>
 aJ k
 (aH (.int .i64) b (a1.add 0) λo=>
 aM (mK 4 (λi (c:Bool)=>i 1=VA a1/\i 5=VB k/\i 13=VB c) (λc a=>
 aM (mK 4 (λi (d:Bool)=>i 5=VB k/\i 18=VB d) (λd n=>
 f d n))
 λh=>
 aJ c
 (h true a)
 (aH (.int .i64) a (a1.add 0) λp=>
 h (p==5) a)))
 λg=>
 aJ (o==1)
 (g true b)
 (aH (.int .i64) b (a1.add 0) λq=>
 g (q==4) b))
 (f false b)
def fw (p0:Sl) (p1:Value) (H:PH) (Q:Int->PH->Prop):Prop:=
 bp (λ(s1:Int) (d:PH) (a:Int->PH->Prop)=>
 aJ (decide (s1<(p0.len:Int)))
 (bX p0 1 s1 λf=>
 aH Sl.v d f λg=>
 ue Tryz.prog p1 [Sl.v g] d λe b=>
 ∃(c:Bool),e= .bool c/\
 aJ c
 (Q s1 b)
 (a (IntKind.wrap .i64 (s1+1)) b))
 (Q (-1) d))
 0 H
def di (p0:Sl) (p1:Value) (H:PH) (Q:Bool->PH->Prop):Prop:=
 fw p0 p1 H λa H1=>
 Q (decide (0<=a)) H1
def vu (p0:(Int×Int×Int×Sl×Sl)) (H:PH) (Q:Bool->PH->Prop):Prop:=
 ag H (row [VI p0.1,VI p0.2.1,VI p0.2.2.1,Sl.v p0.2.2.2.1,Sl.v p0.2.2.2.2] 228) λa1 C=>
 aH (.int .i64) C (a1.add 0) λZ=>
 jl Z 1 2147483647 C λy7 A=>
 aM (mK 5 (λb (B:Bool)=>b 1=VA a1/\b 15=VB B) (λB i=>
 aM (mK 5 (λb (n:Bool)=>b 1=VA a1/\b 21=VB n) (λn j=>
 aM (mK 6 (λb (o:Bool)=>b 1=VA a1/\b 28=VB o) (λo k=>
 aJ o
 (Q false k)
 (aH Sl.v k (a1.add 3) λd=>
 bp (mL (λb (a:Int×Int)=>b 1=VA a1/\b 3=VI a.1/\b 30=Sl.v d/\b 31=VI (d.len:Int)/\b 32=VI a.2) (λa c h=>
 aJ (decide (a.2<(d.len:Int)))
 (aM (mB (λb (p:Int)=>b 1=VA a1/\b 3=VI p/\b 30=Sl.v d/\b 31=VI (d.len:Int)/\b 32=VI a.2) (λp D=>
 h (p,IntKind.wrap .i64 (a.2+1)) D))
 λy=>
 bX d 4 a.2 λL=>
 aU (λ(x:(Int×Int×Int×Int))=>[VI x.1,VI x.2.1,VI x.2.2.1,VI x.2.2.2]) c L 4 λe=>
 ag c (row [VI 0,VI 0,VI 0,VI 0] 230) λm E=>
 aX E m ([VI e.1,VI e.2.1,VI e.2.2.1,VI e.2.2.2]) λr=>
 aU (λ(x:(Int×Int×Int×Int))=>[VI x.1,VI x.2.1,VI x.2.2.1,VI x.2.2.2]) r m 4 λf=>
 tD (f.1,f.2.1,f.2.2.1,f.2.2.2) r λS l=>
 aJ (!S)
 (Q false l)
 (aU (λ(x:(Int×Int×Int×Int))=>[VI x.1,VI x.2.1,VI x.2.2.1,VI x.2.2.2]) l m 4 λg=>
 nt (g.1,g.2.1,g.2.2.1,g.2.2.2) l λT s=>
 aJ T
 (y (IntKind.wrap .i64 (a.1+1)) s)
 (y a.1 s)))
 (aH Sl.v c (a1.add 4) λM=>
 aM (mK 5 (λb (q:Bool)=>b 54=VB q) (λq F=>
 Q q F))
 λz=>
 aJ ((M.len:Int)==a.1)
 (aH Sl.v c (a1.add 4) λN=>
 di N (.func (.func 328) #[] #[]) c λU G=>
 z (!U) G)
 (z false c))))
 (0,0) k)))
 λw=>
 aJ n
 (w true j)
 (aH Sl.v j (a1.add 3) λO=>
 jl (O.len:Int) 1 6 j λV I=>
 w (!V) I)))
 λu=>
 aJ B
 (u true i)
 (aH (.int .i64) i (a1.add 2) λP=>
 jl P 0 4294967295 i λX J=>
 u (!X) J)))
 λt=>
 aJ (!y7)
 (t true A)
 (aH (.int .i64) A (a1.add 1) λR=>
 jl R 1 2147483647 A λY K=>
 t (!Y) K)
def sU (p0:Option Addr) (p1:Sl) (H:PH) (Q:Bool->PH->Prop):Prop:=
 aM (mK 6 (λp (s2:Bool)=>p 0=VP p0/\p 1=Sl.v p1/\p 13=VB s2) (λs2 a=>
 aJ s2
 (Q false a)
 (mP [0,1]<|
 aN p0 λi=>
 mP [2,3]<|
 aH (.int .i64) a (i.add 1) λn=>
 mP [4,5]<|
 aN p0 λf=>
 mP [6,7]<|
 aH Sl.v a (f.add 0) λc=>
 mP [8,9]<|
 aN p0 λg=>
 mP [10,11]<|
 aH (.int .i64) a (g.add 1) λl=>
 mP [12]<|
 kG c 1 l (c.len:Int) λk=>
 mP [13,14]<|
 mZ a 1 k p1 λm b=>
 ar b (i.add 1) (VI n)<|
 mP [15,16]<|
 aN p0 λh=>
 mP [17,18]<|
 aX b (h.add 1) ([VI (IntKind.wrap .i64 (n+m))]) λd=>
 Q true d)))
 λj=>
 aJ (Option.isNone p0)
 (j true H)
 (jR p0 H λo e=>
 j (decide (o<(p1.len:Int))) e)
def iD (p0:Sl) (p1:Int) (H:PH) (Q:Sl->PH->Prop):Prop:=
 aM (mK 1 (λg (s1:Unit)=>g 0=Sl.v p0/\g 1=VI p1) (λs1 b=>
 aM (mK 1 (λg (s5:Sl)=>g 0=Sl.v s5) (λs5 h=>
 Q s5 h))
 λc=>
 aJ (decide (0<(IntKind.wrap .i64 (p1-(IntKind.wrap .i64 ((p0.cap:Int)-(p0.len:Int)))))))
 (kG p0 1 0 (p0.cap:Int) λd=>
 FH b 5 1 1 [.int .u8 0] d (IntKind.wrap .i64 (p1-(IntKind.wrap .i64 ((p0.cap:Int)-(p0.len:Int))))) λe a=>
 kG e 1 0 (p0.len:Int) λf=>
 c f a)
 (c p0 b)))
 λi=>
 aJ (decide (p1< 0))
 (False)
 (i () H)
def jI (p0:Sl) (H:PH) (Q:Sl->PH->Prop):Prop:=
 bp (mL (λb (s1:Int×Int)=>b 0=Sl.v p0/\b 3=VI s1.1/\b 9=Sl.v p0/\b 10=VI (p0.len:Int)/\b 11=VI s1.2) (λs1 g e=>
 aJ (decide (s1.2<(p0.len:Int)))
 (aM (mB (λb (h:Int)=>b 0=Sl.v p0/\b 3=VI h/\b 9=Sl.v p0/\b 10=VI (p0.len:Int)/\b 11=VI s1.2) (λh p=>
 e (h,IntKind.wrap .i64 (s1.2+1)) p))
 λq=>
 bX p0 1 s1.2 λk=>
 aH Sl.v g k λf=>
 aJ (decide ((IntKind.wrap .i64 (s1.1+(f.len:Int)))< 0))
 (False)
 (q (IntKind.wrap .i64 (s1.1+(f.len:Int))) g))
 (iD Sl.nil s1.1 g λo i=>
 bp (mL (λb (a:Sl×Int)=>b 6=Sl.v a.1/\b 25=Sl.v p0/\b 26=VI (p0.len:Int)/\b 27=VI a.2) (λa d c=>
 aJ (decide (a.2<(p0.len:Int)))
 (bX p0 1 a.2 λl=>
 aH Sl.v d l λn=>
 fG d 5 1 1 [.int .u8 0] a.1 n λm j=>
 c (m,IntKind.wrap .i64 (a.2+1)) j)
 (Q a.1 d)))
 (o,0) i)))
 (0,0) H
def m7 (p0:(Int×Int×Int×Sl×Sl)) (H:PH) (Q:Sl->Int->Int->PH->Prop):Prop:=
 ag H (row [VI p0.1,VI p0.2.1,VI p0.2.2.1,Sl.v p0.2.2.2.1,Sl.v p0.2.2.2.2] 228) λa1 s=>
 aU (λ(x:(Int×Int×Int×Sl×Sl))=>[VI x.1,VI x.2.1,VI x.2.2.1,Sl.v x.2.2.2.1,Sl.v x.2.2.2.2]) s a1 5 λd=>
 vu (d.1,d.2.1,d.2.2.1,d.2.2.2.1,d.2.2.2.2) s λZ o=>
 aJ (!Z)
 (Q Sl.nil 0 1 o)
 (aH Sl.v o (a1.add 3) λY=>
 qN Y o λm aa p=>
 qL 64 p λa q=>
 bV q (row [VI 75,VI 82] 3) 2 λE r=>
 bt a 1 E r λab b=>
 aH (.int .i64) b (a1.add 0) λO=>
 aH (.int .i64) b (a1.add 1) λP=>
 aH (.int .i64) b (a1.add 2) λR=>
 bV b (row [VI O,VI P,VI R] 3) 3 λF t=>
 bt a 4 F t λac c=>
 aH Sl.v c (a1.add 3) λS=>
 aH Sl.v c (a1.add 4) λT=>
 bV c (row [VI (S.len:Int),VI (T.len:Int)] 3) 2 λG u=>
 bt a 1 G u λad w=>
 sU a m w λae y=>
 fI a (IntKind.wrap .i64 (44-(m.len:Int))) y λaf ah g=>
 mP [0,4,5]<|
 aH Sl.v g (a1.add 4) λe=>
 mP [1]<|
 fy a g λU h=>
 ar h (a1.add 4) (Sl.v e)<|
 mP [2]<|
 kG U 1 0 60 λI=>
 mP [3]<|
 bV h (row [Sl.v I] 44) 1 λJ i=>
 ar i (a1.add 4) (Sl.v e)<|
 mP [6]<|
 fG i 44 1 24 [.slice none 0 0] J e λK z=>
 mP [7]<|
 wO K z λn A=>
 mP [8]<|
 bV A (row [VI n] 3) 1 λL B=>
 bt a 4 L B λai j=>
 mP [0,3,4]<|
 aH Sl.v j (a1.add 4) λf=>
 mP [7,1]<|
 fy a j λV k=>
 ar k (a1.add 4) (Sl.v f)<|
 mP [2]<|
 bV k (row [Sl.v V] 44) 1 λM l=>
 ar l (a1.add 4) (Sl.v f)<|
 mP [5]<|
 fG l 44 1 24 [.slice none 0 0] M f λN C=>
 mP [6]<|
 jI N C λX D=>
 mP [8,9,10]<|
 Q X n 0 D)
def sk (p0:Sl) (H:PH) (Q:(Int×Int×Int×Sl×Sl)->Int->Int->PH->Prop):Prop:=
 ag H (row [VI 0,VI 0,VI 0,.slice none 0 0,.slice none 0 0] 228) λa1 H2=>
 lB p0 H2 λy5 H4=>
 om y5 H4 λy7 y8 y9 O=>
 aM (λ(V:Bool) (j:PH)=>
 aJ V
 (aX j a1 ([VI 0,VI 0,VI 0,Sl.v Sl.nil,Sl.v Sl.nil]) λk=>
 aU (λ(x:(Int×Int×Int×Sl×Sl))=>[VI x.1,VI x.2.1,VI x.2.2.1,Sl.v x.2.2.2.1,Sl.v x.2.2.2.2]) k a1 5 λa=>
 Q (a.1,a.2.1,a.2.2.1,a.2.2.2.1,a.2.2.2.2) 0 2 k)
 (fI y5 (IntKind.wrap .i64 (7*y7)) j λY an C=>
 ui Y C λZ aa D=>
 aX D (a1.add 3) ([Sl.v Z]) λl=>
 aJ (aa != 0)
 (aX l a1 ([VI 0,VI 0,VI 0,Sl.v Sl.nil,Sl.v Sl.nil]) λm=>
 aU (λ(x:(Int×Int×Int×Sl×Sl))=>[VI x.1,VI x.2.1,VI x.2.2.1,Sl.v x.2.2.2.1,Sl.v x.2.2.2.2]) m a1 5 λb=>
 Q (b.1,b.2.1,b.2.2.1,b.2.2.2.1,b.2.2.2.2) 0 2 m)
 (lB p0 l λg E=>
 fI g 2 E λao ap F=>
 ba g 4 F λab aq G=>
 aX G (a1.add 0) ([VI ab]) λI=>
 ba g 4 I λac au J=>
 aX J (a1.add 1) ([VI ac]) λK=>
 ba g 4 K λad av L=>
 aX L (a1.add 2) ([VI ad]) λM=>
 kG p0 1 64 (p0.len:Int) λS=>
 fg S 64 M λae N=>
 iH Tryz.prog ae (λ(A:List Value) (al:Unit) (n:PH) (af:Nat->Unit->PH->Prop)=>
 ∃(y:Sl),A=[Sl.v y]/\
 aH Sl.v n (a1.add 4) λi=>
 bc y n λah o=>
 ar o (a1.add 4) (Sl.v i)<|
 bV o (row [Sl.v ah] 44) 1 λT p=>
 ar p (a1.add 4) (Sl.v i)<|
 fG p 44 1 24 [.slice none 0 0] i T λU P=>
 aX P (a1.add 4) ([Sl.v U]) λR=>
 af 0 () R) () N λ_ am q=>
 aU (λ(x:(Int×Int×Int×Sl×Sl))=>[VI x.1,VI x.2.1,VI x.2.2.1,Sl.v x.2.2.2.1,Sl.v x.2.2.2.2]) q a1 5 λc=>
 m7 (c.1,c.2.1,c.2.2.1,c.2.2.2.1,c.2.2.2.2) q λai aj ak r=>
 aM (λ(X:Bool) (h:PH)=>
 aJ X
 (aX h a1 ([VI 0,VI 0,VI 0,Sl.v Sl.nil,Sl.v Sl.nil]) λs=>
 aU (λ(x:(Int×Int×Int×Sl×Sl))=>[VI x.1,VI x.2.1,VI x.2.2.1,Sl.v x.2.2.2.1,Sl.v x.2.2.2.2]) s a1 5 λd=>
 Q (d.1,d.2.1,d.2.2.1,d.2.2.2.1,d.2.2.2.2) 0 2 s)
 (aU (λ(x:(Int×Int×Int×Sl×Sl))=>[VI x.1,VI x.2.1,VI x.2.2.1,Sl.v x.2.2.2.1,Sl.v x.2.2.2.2]) h a1 5 λe=>
 aX h a1 ([VI e.1,VI e.2.1,VI e.2.2.1,Sl.v e.2.2.2.1,Sl.v e.2.2.2.2]) λt=>
 aU (λ(x:(Int×Int×Int×Sl×Sl))=>[VI x.1,VI x.2.1,VI x.2.2.1,Sl.v x.2.2.2.1,Sl.v x.2.2.2.2]) t a1 5 λf=>
 Q (f.1,f.2.1,f.2.2.1,f.2.2.2.1,f.2.2.2.2) aj 0 t))
 λw=>
 aJ (ak != 0)
 (w true r)
 (gx ai p0 r λB z=>
 w (!B) z))))
 λu=>
 aJ (!y9)
 (u true O)
 (u ((p0.len:Int) != (IntKind.wrap .i64 (64*(IntKind.wrap .i64 (1+y8))))) O)
def su (p0:Option Addr) (p1:(Int×Int×Int×Int×Int)) (H:PH) (Q:(Int×Int×Int×Sl×Sl)->(Int×Int×Int×Int×Int)->Bool->PH->Prop):Prop:=
 ag H (row [VI p1.1,VI p1.2.1,VI p1.2.2.1,VI p1.2.2.2.1,VI p1.2.2.2.2] 136) λa1 H2=>
 ag H2 (row [VI 0,VI 0,VI 0,.slice none 0 0,.slice none 0 0] 228) λa H5=>
 ag H5 (row [VI 0,VI 0,VI 0,VI 0,VI 0] 136) λb H8=>
 mP [0,1]<|
 aH (.int .i64) H8 (a1.add 1) λav=>
 mP [2,3]<|
 aN p0 λaP=>
 mP [4,5]<|
 aH .pointer H8 (aP.add 1) λaS=>
 mP [6]<|
 cU aS H8 λaW j=>
 ar j (a1.add 1) (VI av)<|
 mP [7,8]<|
 aJ (decide (aW.2.2<=av))
 (mP [0]<|
 aU (λ(x:(Int×Int×Int×Sl×Sl))=>[VI x.1,VI x.2.1,VI x.2.2.1,Sl.v x.2.2.2.1,Sl.v x.2.2.2.2]) j a 5 λu=>
 mP [1]<|
 aU (λ(x:(Int×Int×Int×Int×Int))=>[VI x.1,VI x.2.1,VI x.2.2.1,VI x.2.2.2.1,VI x.2.2.2.2]) j b 5 λf=>
 mP [2]<|
 aX j a ([VI u.1,VI u.2.1,VI u.2.2.1,Sl.v u.2.2.2.1,Sl.v u.2.2.2.2]) λak=>
 fU ak b 5 ([VI f.1,VI f.2.1,VI f.2.2.1,VI f.2.2.2.1,VI f.2.2.2.2])<|
 mP [3]<|
 aX ak b ([VI f.1,VI f.2.1,VI f.2.2.1,VI f.2.2.2.1,VI f.2.2.2.2]) λY=>
 mP [4]<|
 aU (λ(x:(Int×Int×Int×Sl×Sl))=>[VI x.1,VI x.2.1,VI x.2.2.1,Sl.v x.2.2.2.1,Sl.v x.2.2.2.2]) Y a 5 λw=>
 aU (λ(x:(Int×Int×Int×Int×Int))=>[VI x.1,VI x.2.1,VI x.2.2.1,VI x.2.2.2.1,VI x.2.2.2.2]) Y b 5 λy=>
 Q (w.1,w.2.1,w.2.2.1,w.2.2.2.1,w.2.2.2.2) (y.1,y.2.1,y.2.2.1,y.2.2.2.1,y.2.2.2.2) false Y)
 (mP [0,1]<|
 aN p0 λaQ=>
 mP [2,3]<|
 aH .pointer j (aQ.add 1) λaT=>
 mP [4,5]<|
 aH (.int .i64) j (a1.add 0) λaV=>
 mP [7,8]<|
 aH (.int .i64) j (a1.add 1) λq=>
 mP [6]<|
 fb aT aV j λF al=>
 ar al (a1.add 1) (VI q)<|
 mP [9,10]<|
 kK p0 (IntKind.wrap .i64 (F+q)) al λS aY aK=>
 uh S aK λi am=>
 mP [0,1,2]<|
 aM (mQ 63 [] (λc (ae:Bool)=>c 0=VP p0/\c 3=VA a1/\c 4=VA a/\c 5=VA b/\c 7=VI (IntKind.wrap .i64 (F+q))/\c 8=Sl.v S/\c 9=VI i/\c 49=VB ae) (λae O=>
 mP [6]<|
 aM (mQ 524287 [14,8] (λc (af:Bool)=>c 0=VP p0/\c 3=VA a1/\c 4=VA a/\c 5=VA b/\c 7=VI (IntKind.wrap .i64 (F+q))/\c 8=Sl.v S/\c 9=VI i/\c 62=VB af) (λaf P=>
 aJ af
 (mP [0]<|
 aU (λ(x:(Int×Int×Int×Sl×Sl))=>[VI x.1,VI x.2.1,VI x.2.2.1,Sl.v x.2.2.2.1,Sl.v x.2.2.2.2]) P a 5 λz=>
 mP [1]<|
 aU (λ(x:(Int×Int×Int×Int×Int))=>[VI x.1,VI x.2.1,VI x.2.2.1,VI x.2.2.2.1,VI x.2.2.2.2]) P b 5 λg=>
 mP [2]<|
 aX P a ([VI z.1,VI z.2.1,VI z.2.2.1,Sl.v z.2.2.2.1,Sl.v z.2.2.2.2]) λan=>
 fU an b 5 ([VI g.1,VI g.2.1,VI g.2.2.1,VI g.2.2.2.1,VI g.2.2.2.2])<|
 mP [3]<|
 aX an b ([VI g.1,VI g.2.1,VI g.2.2.1,VI g.2.2.2.1,VI g.2.2.2.2]) λZ=>
 mP [4]<|
 aU (λ(x:(Int×Int×Int×Sl×Sl))=>[VI x.1,VI x.2.1,VI x.2.2.1,Sl.v x.2.2.2.1,Sl.v x.2.2.2.2]) Z a 5 λA=>
 aU (λ(x:(Int×Int×Int×Int×Int))=>[VI x.1,VI x.2.1,VI x.2.2.1,VI x.2.2.2.1,VI x.2.2.2.2]) Z b 5 λB=>
 Q (A.1,A.2.1,A.2.2.1,A.2.2.2.1,A.2.2.2.2) (B.1,B.2.1,B.2.2.1,B.2.2.2.1,B.2.2.2.2) false Z)
 (bp (mL (λc (k:Sl×Int)=>c 0=VP p0/\c 3=VA a1/\c 4=VA a/\c 5=VA b/\c 7=VI (IntKind.wrap .i64 (F+q))/\c 8=Sl.v k.1/\c 9=VI i/\c 10=VI k.2) (λk ao U=>
 aJ (decide (k.2<i))
 (kK p0 (IntKind.wrap .i64 ((IntKind.wrap .i64 (F+q))+k.2)) ao λaZ a0 R=>
 aJ (!a0)
 (mP [0]<|
 aU (λ(x:(Int×Int×Int×Sl×Sl))=>[VI x.1,VI x.2.1,VI x.2.2.1,Sl.v x.2.2.2.1,Sl.v x.2.2.2.2]) R a 5 λC=>
 mP [1]<|
 aU (λ(x:(Int×Int×Int×Int×Int))=>[VI x.1,VI x.2.1,VI x.2.2.1,VI x.2.2.2.1,VI x.2.2.2.2]) R b 5 λh=>
 mP [2]<|
 aX R a ([VI C.1,VI C.2.1,VI C.2.2.1,Sl.v C.2.2.2.1,Sl.v C.2.2.2.2]) λap=>
 fU ap b 5 ([VI h.1,VI h.2.1,VI h.2.2.1,VI h.2.2.2.1,VI h.2.2.2.2])<|
 mP [3]<|
 aX ap b ([VI h.1,VI h.2.1,VI h.2.2.1,VI h.2.2.2.1,VI h.2.2.2.2]) λaa=>
 mP [4]<|
 aU (λ(x:(Int×Int×Int×Sl×Sl))=>[VI x.1,VI x.2.1,VI x.2.2.1,Sl.v x.2.2.2.1,Sl.v x.2.2.2.2]) aa a 5 λD=>
 aU (λ(x:(Int×Int×Int×Int×Int))=>[VI x.1,VI x.2.1,VI x.2.2.1,VI x.2.2.2.1,VI x.2.2.2.2]) aa b 5 λE=>
 Q (D.1,D.2.1,D.2.2.1,D.2.2.2.1,D.2.2.2.2) (E.1,E.2.1,E.2.2.1,E.2.2.2.1,E.2.2.2.2) false aa)
 (fG R 5 1 1 [.int .u8 0] k.1 aZ λaR aL=>
 U (aR,IntKind.wrap .i64 (k.2+1)) aL))
 (sk k.1 ao λG T aG aO=>
 aX aO a ([VI G.1,VI G.2.1,VI G.2.2.1,Sl.v G.2.2.2.1,Sl.v G.2.2.2.2]) λr=>
 aM (mK 6 (λc (L:Bool)=>c 3=VA a1/\c 4=VA a/\c 5=VA b/\c 9=VI i/\c 13=VI T/\c 99=VB L) (λL s=>
 aM (mK 6 (λc (M:Bool)=>c 3=VA a1/\c 4=VA a/\c 5=VA b/\c 9=VI i/\c 13=VI T/\c 106=VB M) (λM t=>
 aM (mK 6 (λc (N:Bool)=>c 3=VA a1/\c 4=VA a/\c 5=VA b/\c 9=VI i/\c 13=VI T/\c 113=VB N) (λN e=>
 aJ N
 (mP [0,1]<|
 aU (λ(x:(Int×Int×Int×Int×Int))=>[VI x.1,VI x.2.1,VI x.2.2.1,VI x.2.2.2.1,VI x.2.2.2.2]) e b 5 λd=>
 mP [2]<|
 aX e a ([VI 0,VI 0,VI 0,Sl.v Sl.nil,Sl.v Sl.nil]) λV=>
 fU V b 5 ([VI d.1,VI d.2.1,VI d.2.2.1,VI d.2.2.2.1,VI d.2.2.2.2])<|
 mP [3]<|
 aX V b ([VI d.1,VI d.2.1,VI d.2.2.1,VI d.2.2.2.1,VI d.2.2.2.2]) λI=>
 mP [4]<|
 aU (λ(x:(Int×Int×Int×Sl×Sl))=>[VI x.1,VI x.2.1,VI x.2.2.1,Sl.v x.2.2.2.1,Sl.v x.2.2.2.2]) I a 5 λl=>
 aU (λ(x:(Int×Int×Int×Int×Int))=>[VI x.1,VI x.2.1,VI x.2.2.1,VI x.2.2.2.1,VI x.2.2.2.2]) I b 5 λm=>
 Q (l.1,l.2.1,l.2.2.1,l.2.2.2.1,l.2.2.2.2) (m.1,m.2.1,m.2.2.1,m.2.2.2.1,m.2.2.2.2) false I)
 (mP [0]<|
 aU (λ(x:(Int×Int×Int×Sl×Sl))=>[VI x.1,VI x.2.1,VI x.2.2.1,Sl.v x.2.2.2.1,Sl.v x.2.2.2.2]) e a 5 λn=>
 mP [1,2]<|
 aH (.int .i64) e (a1.add 0) λah=>
 mP [3,4]<|
 aH (.int .i64) e (a1.add 1) λai=>
 mP [5,6,7,8]<|
 aH (.int .i64) e (a.add 1) λax=>
 mP [9,10,11,12]<|
 aH (.int .i64) e (a.add 0) λay=>
 mP [13,14]<|
 aX e a ([VI n.1,VI n.2.1,VI n.2.2.1,Sl.v n.2.2.2.1,Sl.v n.2.2.2.2]) λJ=>
 ar J (a1.add 1) (VI ai)<|
 ar J (a1.add 0) (VI ah)<|
 mP [15]<|
 aX J b ([VI ah,VI (IntKind.wrap .i64 (ai+i)),VI (IntKind.wrap .i64 (ax+1)),VI T,VI ay]) λK=>
 mP [16]<|
 aU (λ(x:(Int×Int×Int×Sl×Sl))=>[VI x.1,VI x.2.1,VI x.2.2.1,Sl.v x.2.2.2.1,Sl.v x.2.2.2.2]) K a 5 λo=>
 aU (λ(x:(Int×Int×Int×Int×Int))=>[VI x.1,VI x.2.1,VI x.2.2.1,VI x.2.2.2.1,VI x.2.2.2.2]) K b 5 λp=>
 Q (o.1,o.2.1,o.2.2.1,o.2.2.2.1,o.2.2.2.2) (p.1,p.2.1,p.2.2.1,p.2.2.2.1,p.2.2.2.2) true K)))
 λad=>
 aJ M
 (ad true t)
 (aH (.int .i64) t (a.add 0) λaz=>
 aH (.int .i64) t (a1.add 4) λaA=>
 ad (decide (az<aA)) t)))
 λac=>
 aJ L
 (ac true s)
 (aH (.int .i64) s (a.add 2) λaB=>
 aH (.int .i64) s (a1.add 3) λaC=>
 ac (aB != aC) s)))
 λab=>
 aJ (aG != 0)
 (ab true r)
 (aH (.int .i64) r (a.add 1) λaD=>
 aH (.int .i64) r (a1.add 2) λaE=>
 ab (aD != aE) r))))
 (S,1) P)))
 λau=>
 aJ ae
 (mP [7,8,9,10,11,12,13,14,15,16,17,18]<|
 au true O)
 (mP [7,8]<|
 aH (.int .i64) O (a1.add 1) λaj=>
 mP [9,10,11,12]<|
 aN p0 λaw=>
 mP [13,14]<|
 aH .pointer O (aw.add 1) λaF=>
 mP [15]<|
 cU aF O λaI X=>
 ar X (a1.add 1) (VI aj)<|
 mP [16,17,18]<|
 au (decide (aI.2.2<(IntKind.wrap .i64 (aj+i)))) X)))
 λaq=>
 aJ (!aY)
 (mP [3,4,5]<|
 aq true am)
 (mP [3,4,5]<|
 aq (i==0) am))
def fJ (p0:Sl) (p1:Value) (H:PH) (Q:Int->PH->Prop):Prop:=
 bp (λ(s1:Int) (e:PH) (a:Int->PH->Prop)=>
 aJ (decide (s1<(p0.len:Int)))
 (bX p0 4 s1 λg=>
 aU (λ(x:(Int×Int×Int×Int))=>[VI x.1,VI x.2.1,VI x.2.2.1,VI x.2.2.2]) e g 4 λb=>
 ue Tryz.prog p1 [.agg ([VI b.1,VI b.2.1,VI b.2.2.1,VI b.2.2.2]:List Value).toArray] e λf c=>
 ∃(d:Bool),f= .bool d/\
 aJ d
 (Q s1 c)
 (a (IntKind.wrap .i64 (s1+1)) c))
 (Q (-1) e))
 0 H
def nu (p0:(Int×Int×Int×Sl×Sl)) (H:PH) (Q:Int->Bool->PH->Prop):Prop:=
 ag H (row [VI p0.1,VI p0.2.1,VI p0.2.2.1,Sl.v p0.2.2.2.1,Sl.v p0.2.2.2.2] 228) λa1 b=>
 aH Sl.v b (a1.add 3) λf=>
 fJ f (.func (.func 224) #[] #[]) b λe a=>
 aJ (decide (e< 0))
 (Q 0 false a)
 (aH Sl.v a (a1.add 3) λg=>
 bX g 4 e λc=>
 aH (.int .i64) a (c.add 3) λd=>
 Q d true a)
def qT {γ:Type} (c0:Addr) (Y:List Value->γ->PH->(Nat->γ->PH->Prop)->Prop) (g:γ) (H:PH) (Q:Nat->γ->PH->Prop):Prop:=
 aH .pointer H c0 λS=>
 aJ (Option.isNone S)
 (Q (0,g).1 (0,g).2 H)
 (aH .pointer H c0 λT=>
 qb T H λu U R=>
 ag R (row [VI 0,VI 0,VI 0,VI 0,VI 0] 136) λt z=>
 aX z t ([VI u.1,VI u.2.1,VI u.2.2.1,VI u.2.2.2.1,VI u.2.2.2.2]) λq=>
 aH .pointer q c0 λK=>
 aU (λ(x:(Int×Int×Int×Int×Int))=>[VI x.1,VI x.2.1,VI x.2.2.1,VI x.2.2.2.1,VI x.2.2.2.2]) q t 5 λb=>
 aN K λG=>
 aX q (G.add 8) ([VI b.1,VI b.2.1,VI b.2.2.1,VI b.2.2.2.1,VI b.2.2.2.2]) λA=>
 bp (λ(a:Bool×(Nat×γ)) (l:PH) (p:(Bool×(Nat×γ))->PH->Prop)=>
 aJ a.1
 (aH .pointer l c0 λL=>
 aU (λ(x:(Int×Int×Int×Int×Int))=>[VI x.1,VI x.2.1,VI x.2.2.1,VI x.2.2.2.1,VI x.2.2.2.2]) l t 5 λc=>
 su L (c.1,c.2.1,c.2.2.1,c.2.2.2.1,c.2.2.2.2) l λj k O B=>
 ag B (row [VI 0,VI 0,VI 0,.slice none 0 0,.slice none 0 0] 228) λs C=>
 ag C (row [VI 0,VI 0,VI 0,VI 0,VI 0] 136) λy D=>
 aX D s ([VI j.1,VI j.2.1,VI j.2.2.1,Sl.v j.2.2.2.1,Sl.v j.2.2.2.2]) λE=>
 aX E y ([VI k.1,VI k.2.1,VI k.2.2.1,VI k.2.2.2.1,VI k.2.2.2.2]) λm=>
 aJ (!O)
 (Q a.2.1 a.2.2 m)
 (aH .pointer m c0 λM=>
 aU (λ(x:(Int×Int×Int×Int×Int))=>[VI x.1,VI x.2.1,VI x.2.2.1,VI x.2.2.2.1,VI x.2.2.2.2]) m y 5 λd=>
 aN M λI=>
 aX m (I.add 8) ([VI d.1,VI d.2.1,VI d.2.2.1,VI d.2.2.2.1,VI d.2.2.2.2]) λw=>
 aU (λ(x:(Int×Int×Int×Sl×Sl))=>[VI x.1,VI x.2.1,VI x.2.2.1,Sl.v x.2.2.2.1,Sl.v x.2.2.2.2]) w s 5 λe=>
 nu (e.1,e.2.1,e.2.2.1,e.2.2.2.1,e.2.2.2.2) w λV P r=>
 aU (λ(x:(Int×Int×Int×Int×Int))=>[VI x.1,VI x.2.1,VI x.2.2.1,VI x.2.2.2.1,VI x.2.2.2.2]) r t 5 λf=>
 aU (λ(x:(Int×Int×Int×Sl×Sl))=>[VI x.1,VI x.2.1,VI x.2.2.1,Sl.v x.2.2.2.1,Sl.v x.2.2.2.2]) r s 5 λh=>
 sP Y a.2 [.agg ([VI f.1,VI f.2.1,VI f.2.2.1,VI f.2.2.2.1,VI f.2.2.2.2]:List Value).toArray,.agg ([VI h.1,VI h.2.1,VI h.2.2.1,Sl.v h.2.2.2.1,Sl.v h.2.2.2.2]:List Value).toArray] r λo n=>
 aJ (!(o.1==0))
 (Q o.1 o.2 n)
 (aH .pointer n c0 λN=>
 aN N λJ=>
 aU (λ(x:(Int×Int×Int×Int×Int))=>[VI x.1,VI x.2.1,VI x.2.2.1,VI x.2.2.2.1,VI x.2.2.2.2]) n (J.add 8) 5 λi=>
 aX n t ([VI i.1,VI i.2.1,VI i.2.2.1,VI i.2.2.2.1,VI i.2.2.2.2]) λF=>
 p (!P,o) F)))
 (Q a.2.1 a.2.2 l))
 (U,(0,g)) A)
def pW (p0:Option Addr) (H:PH) (Q:Value->PH->Prop):Prop:=
 ag H (row [.pointer p0] 279) λa1 a=>
 Q (.func (.func 262) #[] #[.pointer (some a1)]) a
def qE (p0:Option Addr) (H:PH) (Q:(Int×Int×Int×Int×Int)->PH->Prop):Prop:=
 ag H (row [VI 0,VI 0,VI 0,VI 0,VI 0] 136) λa1 e=>
 aJ (Option.isNone p0)
 (aX e a1 ([VI 0,VI 0,VI 0,VI 0,VI 0]) λf=>
 aU (λ(x:(Int×Int×Int×Int×Int))=>[VI x.1,VI x.2.1,VI x.2.2.1,VI x.2.2.2.1,VI x.2.2.2.2]) f a1 5 λc=>
 Q (c.1,c.2.1,c.2.2.1,c.2.2.2.1,c.2.2.2.2) f)
 (aN p0 λg=>
 aU (λ(x:(Int×Int×Int×Int×Int))=>[VI x.1,VI x.2.1,VI x.2.2.1,VI x.2.2.2.1,VI x.2.2.2.2]) e (g.add 8) 5 λa=>
 aX e a1 ([VI a.1,VI a.2.1,VI a.2.2.1,VI a.2.2.2.1,VI a.2.2.2.2]) λd=>
 aU (λ(x:(Int×Int×Int×Int×Int))=>[VI x.1,VI x.2.1,VI x.2.2.1,VI x.2.2.2.1,VI x.2.2.2.2]) d a1 5 λb=>
 Q (b.1,b.2.1,b.2.2.1,b.2.2.2.1,b.2.2.2.2) d)
def ri (p0:Option Addr) (p1:(Int×Int×Int×Sl×Sl)) (p2:(Int×Int×Int×Int×Int)) (H:PH) (Q:(Int×Int×Int×Int×Int)->Bool->PH->Prop):Prop:=
 ag H (row [VI p1.1,VI p1.2.1,VI p1.2.2.1,Sl.v p1.2.2.2.1,Sl.v p1.2.2.2.2] 228) λa1 z=>
 ag z (row [VI p2.1,VI p2.2.1,VI p2.2.2.1,VI p2.2.2.2.1,VI p2.2.2.2.2] 136) λf A=>
 ag A (row [VI 0,VI 0,VI 0,VI 0,VI 0] 136) λh r=>
 aU (λ(x:(Int×Int×Int×Sl×Sl))=>[VI x.1,VI x.2.1,VI x.2.2.1,Sl.v x.2.2.2.1,Sl.v x.2.2.2.2]) r a1 5 λb=>
 nu (b.1,b.2.1,b.2.2.1,b.2.2.2.1,b.2.2.2.2) r λg w e=>
 aM (mK 7 (λn (a:Bool)=>n 5=VA f/\n 6=VA h/\n 8=VI g/\n 23=VB a) (λa i=>
 aM (mK 1 (λn (t:Unit)=>n 5=VA f/\n 6=VA h/\n 9=VB a) (λt j=>
 aU (λ(x:(Int×Int×Int×Int×Int))=>[VI x.1,VI x.2.1,VI x.2.2.1,VI x.2.2.2.1,VI x.2.2.2.2]) j f 5 λc=>
 aX j h ([VI c.1,VI c.2.1,VI c.2.2.1,VI c.2.2.2.1,VI c.2.2.2.2]) λk=>
 aU (λ(x:(Int×Int×Int×Int×Int))=>[VI x.1,VI x.2.1,VI x.2.2.1,VI x.2.2.2.1,VI x.2.2.2.2]) k h 5 λd=>
 Q (d.1,d.2.1,d.2.2.1,d.2.2.2.1,d.2.2.2.2) a k))
 λm=>
 aJ a
 (aX i (f.add 0) ([VI g]) λo=>
 aX o (f.add 1) ([VI 0]) λp=>
 m () p)
 (m () i)))
 λl=>
 aJ w
 (aN p0 λs=>
 aH .pointer e (s.add 1) λu=>
 lC u g e λy q=>
 l y q)
 (l false e)
def sv (p0:Option Addr) (H:PH) (Q:Int->PH->Prop):Prop:=
 aJ (Option.isNone p0)
 (Q 1 H)
 (aN p0 λa=>
 aH (.int .i64) H (a.add 13) λb=>
 Q b H)
def nv {γ:Type} (c0:Addr) (yv:Value) (Y:List Value->γ->PH->(Nat->γ->PH->Prop)->Prop) (g:γ) (H:PH) (Q:Nat->γ->PH->Prop):Prop:=
 ag H (row [yv] 278) λa1 u=>
 aH .pointer u c0 λx4=>
 aJ (Option.isNone x4)
 (Q (0,g).1 (0,g).2 u)
 (aH .pointer u c0 λx7=>
 aH .pointer u c0 λx9=>
 aH .pointer u c0 λaR=>
 aN aR λaG=>
 aU (λ(x:(Int×Int×Int×Int×Int))=>[VI x.1,VI x.2.1,VI x.2.2.1,VI x.2.2.2.1,VI x.2.2.2.2]) u (aG.add 2) 5 λq=>
 aN x7 λaI=>
 aX u (aI.add 7) ([VI q.1,VI q.2.1,VI q.2.2.1,VI q.2.2.2.1,VI q.2.2.2.2]) λJ=>
 ar J c0 (.pointer x9)<|
 aN x9 λaK=>
 aX J (aK.add 12) ([VI 0]) λau=>
 ag au (row [.bool false] 4) λN av=>
 aX av N ([.bool true]) λaw=>
 bp (λ(f:Addr×(Nat×γ)) (e:PH) (C:(Addr×(Nat×γ))->PH->Prop)=>
 aH .bool e f.1 λaS=>
 aJ aS
 (aM (λ(aQ:(Nat×γ)) (K:PH)=>
 aH .bool K f.1 λaT=>
 ag K (row [.bool false] 4) λO ax=>
 aX ax O ([.bool aT]) λay=>
 C (O,aQ) ay)
 λR=>
 aM (λ(l:Addr×(Nat×γ)) (az:PH)=>
 aX az f.1 ([.bool false]) λL=>
 aH .pointer L l.1 λaV=>
 pW aV L λaZ aA=>
 iH Tryz.prog aZ (λ(ah:List Value) (aP:Nat×γ) (aB:PH) (T:Nat->(Nat×γ)->PH->Prop)=>
 ∃(b:(Int×Int×Int×Int×Int)) (c:(Int×Int×Int×Sl×Sl)),ah=[.agg ([VI b.1,VI b.2.1,VI b.2.2.1,VI b.2.2.2.1,VI b.2.2.2.2]:List Value).toArray,.agg ([VI c.1,VI c.2.1,VI c.2.2.1,Sl.v c.2.2.2.1,Sl.v c.2.2.2.2]:List Value).toArray]/\
 ag aB (row [VI 0,VI 0,VI 0,VI 0,VI 0] 136) λP aC=>
 aX aC P ([VI b.1,VI b.2.1,VI b.2.2.1,VI b.2.2.2.1,VI b.2.2.2.2]) λaD=>
 ag aD (row [VI 0,VI 0,VI 0,.slice none 0 0,.slice none 0 0] 228) λB aE=>
 aX aE B ([VI c.1,VI c.2.1,VI c.2.2.1,Sl.v c.2.2.2.1,Sl.v c.2.2.2.2]) λp=>
 aH .pointer p c0 λI=>
 aH .pointer p c0 λS=>
 aU (λ(x:(Int×Int×Int×Sl×Sl))=>[VI x.1,VI x.2.1,VI x.2.2.1,Sl.v x.2.2.2.1,Sl.v x.2.2.2.2]) p B 5 λd=>
 aH .pointer p l.1 λaW=>
 qE aW p λr z=>
 fU z B 5 ([VI d.1,VI d.2.1,VI d.2.2.1,Sl.v d.2.2.2.1,Sl.v d.2.2.2.2])<|
 ar z c0 (.pointer S)<|
 ar z c0 (.pointer I)<|
 ri S (d.1,d.2.1,d.2.2.1,d.2.2.2.1,d.2.2.2.2) (r.1,r.2.1,r.2.2.1,r.2.2.2.1,r.2.2.2.2) z λs a0 M=>
 ar M c0 (.pointer I)<|
 aN I λaL=>
 aX M (aL.add 7) ([VI s.1,VI s.2.1,VI s.2.2.1,VI s.2.2.2.1,VI s.2.2.2.2]) λaF=>
 aX aF f.1 ([.bool a0]) λA=>
 aH id A a1 λaY=>
 aU (λ(x:(Int×Int×Int×Int×Int))=>[VI x.1,VI x.2.1,VI x.2.2.1,VI x.2.2.2.1,VI x.2.2.2.2]) A P 5 λh=>
 aU (λ(x:(Int×Int×Int×Sl×Sl))=>[VI x.1,VI x.2.1,VI x.2.2.1,Sl.v x.2.2.2.1,Sl.v x.2.2.2.2]) A B 5 λi=>
 rV (aY=yv)<|
 sP Y aP [.agg ([VI h.1,VI h.2.1,VI h.2.2.1,VI h.2.2.2.1,VI h.2.2.2.2]:List Value).toArray,.agg ([VI i.1,VI i.2.1,VI i.2.2.1,Sl.v i.2.2.2.1,Sl.v i.2.2.2.2]:List Value).toArray] A λw D=>
 aJ (!(w.1==0))
 (T 1 w D)
 (T 0 w D)) l.2 aA λaf n a=>
 aJ (af==1)
 (Q n.1 n.2 a)
 (aH .bool a f.1 λai=>
 aJ (!ai)
 (aH .pointer a c0 λy=>
 aH .pointer a c0 λo=>
 aH .pointer a l.1 λaj=>
 aH .pointer a l.1 λG=>
 qE aj a λk m=>
 ar m l.1 (.pointer G)<|
 ar m c0 (.pointer o)<|
 ar m c0 (.pointer y)<|
 sv G m λap t=>
 ar t c0 (.pointer o)<|
 ar t c0 (.pointer y)<|
 aN y λaa=>
 aX t (aa.add 7) ([VI k.1,VI k.2.1,VI k.2.2.1,VI k.2.2.2.1,VI k.2.2.2.2]) λE=>
 ar E c0 (.pointer o)<|
 aN o λab=>
 aX E (ab.add 12) ([VI ap]) λU=>
 R n U)
 (R n a)))
 λaO=>
 aH .pointer e c0 λak=>
 aN ak λac=>
 aH .pointer e (ac.add 0) λal=>
 aH .pointer e c0 λam=>
 aN am λad=>
 aH .pointer e (ad.add 1) λan=>
 aH .pointer e c0 λao=>
 aN ao λae=>
 aU (λ(x:(Int×Int×Int×Int×Int))=>[VI x.1,VI x.2.1,VI x.2.2.1,VI x.2.2.2.1,VI x.2.2.2.2]) e (ae.add 7) 5 λj=>
 zI al an (j.1,j.2.1,j.2.2.1,j.2.2.2.1,j.2.2.2.2) e λaq V=>
 ag V (row [.pointer none] 279) λF X=>
 aX X F ([.pointer aq]) λZ=>
 aO (F,f.2) Z)
 (Q f.2.1 f.2.2 e))
 (N,(0,g)) aw)
def mg (p0:Option Addr) (H:PH) (Q:Value->PH->Prop):Prop:=
 ag H (row [.pointer p0] 221) λa1 a=>
 Q (.func (.func 206) #[] #[.pointer (some a1)]) a
def iL (p0:Option Addr) (H:PH) (Q:Int->PH->Prop):Prop:=
 aJ (Option.isNone p0)
 (Q 0 H)
 (aN p0 λa=>
 aH Sl.v H (a.add 0) λb=>
 Q (b.len:Int) H)
def nw {γ:Type} (c0:Addr) (Y:List Value->γ->PH->(Nat->γ->PH->Prop)->Prop) (g:γ) (H:PH) (Q:Nat->γ->PH->Prop):Prop:=
 aH .pointer H c0 λl=>
 iL l H λm k=>
 bp (λ(s5:Int×(Nat×γ)) (b:PH) (c:(Int×(Nat×γ))->PH->Prop)=>
 aJ (decide (s5.1<m))
 (aH .pointer b c0 λh=>
 aN h λe=>
 aH Sl.v b (e.add 0) λi=>
 bX i 1 s5.1 λf=>
 aH (.int .i64) b f λj=>
 sP Y s5.2 [VI s5.1,VI j] b λa d=>
 aJ (!(a.1==0))
 (Q a.1 a.2 d)
 (c (IntKind.wrap .i64 (s5.1+1),a) d))
 (Q s5.2.1 s5.2.2 b))
 (0,(0,g)) k
def iM (p0:Option Addr) (H:PH) (Q:Value->PH->Prop):Prop:=
 ag H (row [.pointer p0] 259) λa1 a=>
 Q (.func (.func 254) #[] #[.pointer (some a1)]) a
def fV (p0:Option Addr) (p1:Int) (H:PH) (Q:Int->Bool->PH->Prop):Prop:=
 aM (mK 5 (λg (s2:Bool)=>g 0=VP p0/\g 1=VI p1/\g 4=VI 0/\g 13=VB s2) (λs2 a=>
 aJ s2
 (Q 0 false a)
 (aN p0 λh=>
 aH Sl.v a (h.add 0) λi=>
 bX i 1 p1 λc=>
 aH (.int .i64) a c λe=>
 Q e true a)))
 λd=>
 aJ (decide (p1< 0))
 (d true H)
 (iL p0 H λf b=>
 d (decide (f<=p1)) b)
def gM (p0:Option Addr) (p1:Int) (p2:Int) (H:PH) (Q:Bool->PH->Prop):Prop:=
 fV p0 p1 H λr b H1=>
 aM (mK 4 (λe (s5:Bool)=>e 0=VP p0/\e 1=VI p1/\e 2=VI p2/\e 8=VB b/\e 20=VB s5) (λs5 a=>
 aM (mK 1 (λe (q:Unit)=>e 8=VB b) (λq f=>
 Q b f))
 λc=>
 aJ s5
 (mP [0,1]<|
 aN p0 λi=>
 mP [2,3]<|
 aH Sl.v a (i.add 0) λo=>
 mP [4,5,6]<|
 aN p0 λj=>
 mP [7,8]<|
 aH Sl.v a (j.add 2) λp=>
 mP [9,10,11]<|
 aN p0 λk=>
 mP [12,13]<|
 aH (.int .i64) a (k.add 1) λd=>
 mP [14]<|
 xP d<|
 mP [15,16]<|
 bX o 1 p1 λl=>
 mP [17]<|
 aX a l ([VI p2]) λg=>
 mP [18]<|
 bX p 1 (IntKind.wrap .i64 (Int.tdiv p1 d)) λm=>
 mP [19]<|
 aX g m ([.bool true]) λh=>
 c () h)
 (c () a)))
 λn=>
 aJ b
 (n (r != p2) H1)
 (n false H1)
def rC (p0:Option Addr) (p1:Int) (p2:Int) (H:PH) (Q:Int->PH->Prop):Prop:=
 fV p0 p1 H λa c H1=>
 gM p0 p1 p2 H1 λd b=>
 aJ (a==p2)
 (Q 0 b)
 (Q (if a< 0 then 0 else a) b)
def ka (p0:Option Addr) (H:PH) (Q:Sl->PH->Prop):Prop:=
 ag H (row [.pointer p0] 80) λa1 A=>
 ag A (row [.slice none 0 0] 23) λc n=>
 aH .pointer n a1 λC=>
 cV C true n λy B=>
 iM y B λz j=>
 iH Tryz.prog z (λ(i:List Value) (D:Unit) (a:PH) (g:Nat->Unit->PH->Prop)=>
 ∃(f:Int) (r:Int),i=[VI f,VI r]/\
 aH .pointer a a1 λs=>
 aN s λo=>
 aH .pointer a (o.add 1) λt=>
 rC t f (-1) a λh b=>
 aJ (decide (0<h))
 (aH Sl.v b c λu=>
 bV b (row [VI h] 3) 1 λp k=>
 fG k 3 1 8 [VI 0] u p λq l=>
 aX l c ([Sl.v q]) λm=>
 g 0 () m)
 (g 0 () b)) () j λ_ E d=>
 aH Sl.v d c λw=>
 aX d c ([Sl.v w]) λe=>
 aH Sl.v e c λx=>
 Q x e
def iN (p0:Option Addr) (H:PH) (Q:PH->Prop):Prop:=
 aN p0 λa1=>
 aH .pointer H (a1.add 23) λe=>
 ka e H λg b=>
 aN p0 λd=>
 aH (.int .i64) b ((d.add 24).add 4) λf=>
 aN p0 λc=>
 aX b ((c.add 24).add 3) ([VI f]) λa=>
 Q a
def gk (p0:Option Addr) (H:PH) (Q:Int->PH->Prop):Prop:=
 cV p0 false H λb H1=>
 iL b H1 λc a=>
 Q c a
def qc (p0:Option Addr) (p1:Int) (p2:Int) (H:PH) (Q:Bool->PH->Prop):Prop:=
 aM (mK 5 (λb (s2:Bool)=>b 0=VP p0/\b 1=VI p1/\b 2=VI p2/\b 14=VB s2) (λs2 h=>
 aM (mK 3 (λb (d:Bool)=>b 0=VP p0/\b 1=VI p1/\b 2=VI p2/\b 18=VB d) (λd i=>
 aM (mK 7 (λb (a:Bool)=>b 26=VB a) (λa e=>
 Q a e))
 λc=>
 aJ d
 (gk p0 i λl f=>
 c (decide (p1<=(IntKind.wrap .i64 (l-p2)))) f)
 (c false i)))
 λk=>
 aJ s2
 (k (decide (0<=p1)) h)
 (k false h)))
 λj=>
 aJ (decide (1<=p2))
 (gk p0 H λm g=>
 j (decide (p2<=m)) g)
 (j false H)
def qd (p0:Option Addr) (p1:Bool) (p2:Int) (p3:Int) (H:PH) (Q:Int->Bool->PH->Prop):Prop:=
 qc p0 p2 1 H λk H1=>
 aM (mK 3 (λa (s4:Bool)=>a 0=VP p0/\a 1=VB p1/\a 2=VI p2/\a 3=VI p3/\a 17=VB s4) (λs4 g=>
 aM (mK 3 (λa (d:Bool)=>a 0=VP p0/\a 1=VB p1/\a 2=VI p2/\a 3=VI p3/\a 21=VB d) (λd b=>
 aJ d
 (Q 0 false b)
 (cV p0 p1 b λi e=>
 rC i p2 p3 e λj f=>
 Q j true f)))
 λc=>
 aJ s4
 (c true g)
 (c (decide (4096<=p3)) g)))
 λh=>
 aJ (!k)
 (h true H1)
 (h (decide (p3< 1)) H1)
def oD (p0:Option Addr) (p1:Int) (p2:Int) (H:PH) (Q:Int->Bool->PH->Prop):Prop:=
 qd p0 true p1 p2 H λa b H1=>
 Q a b H1
def kb (p0:Option Addr) (H:PH) (Q:Sl->PH->Prop):Prop:=
 ag H (row [.pointer p0] 80) λa1 G=>
 ag G (row [.slice none 0 0] 23) λd r=>
 aH .pointer r a1 λJ=>
 cV J true r λE I=>
 iM E I λF m=>
 iH Tryz.prog F (λ(l:List Value) (K:Unit) (a:PH) (j:Nat->Unit->PH->Prop)=>
 ∃(e:Int) (f:Int),l=[VI e,VI f]/\
 aJ (f==(-1))
 (j 0 () a)
 (aH .pointer a a1 λx=>
 aN x λs=>
 aH .pointer a (s.add 0) λy=>
 rC y e f a λk b=>
 aM (λ(M:Unit) (c:PH)=>
 aH .pointer c a1 λz=>
 aN z λt=>
 aH .pointer c (t.add 1) λA=>
 gM A e (-1) c λN n=>
 j 0 () n)
 λi=>
 aJ (decide (0<k))
 (aH Sl.v b d λB=>
 bV b (row [VI k] 3) 1 λu o=>
 fG o 3 1 8 [VI 0] B u λw p=>
 aX p d ([Sl.v w]) λq=>
 i () q)
 (i () b))) () m λ_ L g=>
 aH Sl.v g d λC=>
 aX g d ([Sl.v C]) λh=>
 aH Sl.v h d λD=>
 Q D h
def gQ (p0:Option Addr) (p1:Int) (H:PH) (Q:Bool->PH->Prop):Prop:=
 aM (mK 3 (λg (s2:Bool)=>g 0=VP p0/\g 1=VI p1/\g 10=VB s2) (λs2 a=>
 aM (mK 8 (λg (b:Bool)=>g 19=VB b) (λb h=>
 Q b h))
 λe=>
 aJ s2
 (aN p0 λc=>
 aH Sl.v a (c.add 1) λf=>
 e (decide (p1<(f.len:Int))) a)
 (e false a)))
 λd=>
 aJ (!(Option.isNone p0))
 (d (decide (0<=p1)) H)
 (d false H)
def kL (p0:Option Addr) (p1:Int) (H:PH) (Q:Bool->PH->Prop):Prop:=
 gQ p0 p1 H λo H1=>
 aM (mK 10 (λp (s4:Bool)=>p 0=VP p0/\p 1=VI p1/\p 19=VB s4) (λs4 a=>
 aJ s4
 (Q false a)
 (mP [0,1]<|
 aN p0 λn=>
 mP [2,3]<|
 aH Sl.v a (n.add 1) λj=>
 mP [4,5,6]<|
 aN p0 λd=>
 mP [7,8]<|
 aH Sl.v a (d.add 2) λk=>
 mP [9,10]<|
 bX j 2 p1 λe=>
 mP [11,12]<|
 aX a (e.add 0) ([VI 1]) λb=>
 mP [13]<|
 bX k 1 p1 λf=>
 mP [14]<|
 aX b f ([VI 0]) λc=>
 Q true c)))
 λi=>
 aJ (!o)
 (i true H1)
 (aN p0 λg=>
 aH Sl.v H1 (g.add 1) λl=>
 bX l 2 p1 λh=>
 aH (.int .i64) H1 (h.add 0) λm=>
 i (m != 0) H1)
def jg (p0:Option Addr) (p1:(Int×Int×Int×Int)) (p2:Int) (H:PH) (Q:PH->Prop):Prop:=
 ag H (row [VI p1.1,VI p1.2.1,VI p1.2.2.1,VI p1.2.2.2] 230) λa1 a=>
 aH (.int .i64) a (a1.add 0) λb=>
 aJ (b==1)
 (mP [0,1]<|
 aN p0 λA=>
 mP [2,3]<|
 aH .pointer a (A.add 23) λB=>
 mP [4,5]<|
 aH (.int .i64) a (a1.add 1) λs=>
 mP [6,7]<|
 oD B s p2 a λC D c=>
 aN p0 λj=>
 aH (.int .i64) c ((j.add 24).add 3) λt=>
 aN p0 λk=>
 aX c ((k.add 24).add 3) ([VI (IntKind.wrap .i64 (t+1))]) λf=>
 Q f)
 (aJ (b==2)
 (False)
 (aJ (b==3)
 (mP [0,1,2,3]<|
 aH (.int .i64) a (a1.add 3) λu=>
 mP [4,5]<|
 aN p0 λl=>
 mP [6,7,8]<|
 aH (.int .i64) a ((l.add 24).add 3) λv=>
 mP [9,10]<|
 aN p0 λm=>
 mP [11,12,13]<|
 aX a ((m.add 24).add 2) ([VI u]) λg=>
 mP [14]<|
 aN p0 λn=>
 mP [15,16,17]<|
 aX g ((n.add 24).add 3) ([VI (IntKind.wrap .i64 (v+1))]) λd=>
 aN p0 λo=>
 aH (.int .i64) d ((o.add 24).add 3) λw=>
 aN p0 λp=>
 aX d ((p.add 24).add 4) ([VI w]) λe=>
 aN p0 λq=>
 aH .pointer e (q.add 23) λx=>
 kb x e λE h=>
 Q h)
 (aJ (b==5)
 (False)
 (aJ (b==6)
 (False)
 (aJ (b==4)
 (False)
 (aJ (b==7)
 (mP [0,1]<|
 aN p0 λr=>
 mP [2,3]<|
 aH .pointer a (r.add 22) λy=>
 mP [4,5]<|
 aH (.int .i64) a (a1.add 3) λz=>
 mP [6]<|
 kL y z a λF i=>
 Q i)
 (Q a)))))))
def jh (p0:Option Addr) (p1:Int) (p2:Int) (H:PH) (Q:PH->Prop):Prop:=
 gQ p0 p1 H λk H1=>
 aM (mK 3 (λb (s4:Bool)=>b 0=VP p0/\b 1=VI p1/\b 2=VI p2/\b 12=VB s4) (λs4 f=>
 aM (mK 3 (λb (d:Bool)=>b 0=VP p0/\b 1=VI p1/\b 2=VI p2/\b 16=VB d) (λd a=>
 aJ d
 (aN p0 λg=>
 aH Sl.v a (g.add 1) λj=>
 bX j 2 p1 λh=>
 aX a (h.add 1) ([VI p2]) λe=>
 Q e)
 (Q a)))
 λc=>
 aJ s4
 (c (decide (p2<=2147483647)) f)
 (c false f)))
 λi=>
 aJ k
 (i (decide (0<=p2)) H1)
 (i false H1)
def kM (p0:Option Addr) (p1:Int) (H:PH) (Q:PH->Prop):Prop:=
 gQ p0 p1 H λk H1=>
 aM (mK 10 (λl (s4:Bool)=>l 0=VP p0/\l 1=VI p1/\l 17=VB s4) (λs4 a=>
 aJ s4
 (aN p0 λj=>
 aH Sl.v a (j.add 1) λg=>
 bX g 2 p1 λc=>
 aX a (c.add 0) ([VI 2]) λb=>
 Q b)
 (Q a)))
 λf=>
 aJ k
 (aN p0 λd=>
 aH Sl.v H1 (d.add 1) λh=>
 bX h 2 p1 λe=>
 aH (.int .i64) H1 (e.add 0) λi=>
 f (i==1) H1)
 (f false H1)
def qe (p0:Option Addr) (H:PH) (Q:(Int×Int×Int×Int×Int)->PH->Prop):Prop:=
 ag H (row [VI 0,VI 0,VI 0,VI 0,VI 0] 136) λa1 e=>
 aJ (Option.isNone p0)
 (aX e a1 ([VI 0,VI 0,VI 0,VI 0,VI 0]) λf=>
 aU (λ(x:(Int×Int×Int×Int×Int))=>[VI x.1,VI x.2.1,VI x.2.2.1,VI x.2.2.2.1,VI x.2.2.2.2]) f a1 5 λc=>
 Q (c.1,c.2.1,c.2.2.1,c.2.2.2.1,c.2.2.2.2) f)
 (aN p0 λg=>
 aU (λ(x:(Int×Int×Int×Int×Int))=>[VI x.1,VI x.2.1,VI x.2.2.1,VI x.2.2.2.1,VI x.2.2.2.2]) e (g.add 7) 5 λa=>
 aX e a1 ([VI a.1,VI a.2.1,VI a.2.2.1,VI a.2.2.2.1,VI a.2.2.2.2]) λd=>
 aU (λ(x:(Int×Int×Int×Int×Int))=>[VI x.1,VI x.2.1,VI x.2.2.1,VI x.2.2.2.1,VI x.2.2.2.2]) d a1 5 λb=>
 Q (b.1,b.2.1,b.2.2.1,b.2.2.2.1,b.2.2.2.2) d)
def qf (p0:Option Addr) (H:PH) (Q:Int->PH->Prop):Prop:=
 aJ (Option.isNone p0)
 (Q 1 H)
 (aN p0 λa=>
 aH (.int .i64) H (a.add 12) λb=>
 Q b H)
def lY (p0:Option Addr) (H:PH) (Q:Int->PH->Prop):Prop:=
 ag H (row [.pointer p0] 149) λa1 n=>
 aH .pointer n a1 λx4=>
 aN x4 λa6=>
 aH .pointer n (a6.add 0) λx8=>
 aH .pointer n a1 λaC=>
 aN aC λax=>
 aH .pointer n (ax.add 1) λaD=>
 aH .pointer n a1 λaE=>
 aN aE λay=>
 aU (λ(x:(Int×Int×Int×Int×Int))=>[VI x.1,VI x.2.1,VI x.2.2.1,VI x.2.2.2.1,VI x.2.2.2.2]) n ((ay.add 7).add 6) 5 λm=>
 xW x8 aD (m.1,m.2.1,m.2.2.1,m.2.2.2.1,m.2.2.2.2) n λE y=>
 aH .pointer y a1 λaF=>
 aN aF λaz=>
 aH (.int .i64) y (((az.add 7).add 6).add 4) λaG=>
 ag y (row [VI 0] 3) λB am=>
 aX am B ([VI aG]) λan=>
 mg E an λaR ao=>
 iH Tryz.prog aR (λ(Y:List Value) (aY:Unit) (ap:PH) (N:Nat->Unit->PH->Prop)=>
 ∃(a:(Int×Int×Int×Int×Int)) (b:(Int×Int×Int×Sl×Sl)),Y=[.agg ([VI a.1,VI a.2.1,VI a.2.2.1,VI a.2.2.2.1,VI a.2.2.2.2]:List Value).toArray,.agg ([VI b.1,VI b.2.1,VI b.2.2.1,Sl.v b.2.2.2.1,Sl.v b.2.2.2.2]:List Value).toArray]/\
 ag ap (row [VI 0,VI 0,VI 0,VI 0,VI 0] 136) λg aq=>
 aX aq g ([VI a.1,VI a.2.1,VI a.2.2.1,VI a.2.2.2.1,VI a.2.2.2.2]) λau=>
 ag au (row [VI 0,VI 0,VI 0,.slice none 0 0,.slice none 0 0] 228) λh av=>
 aX av h ([VI b.1,VI b.2.1,VI b.2.2.1,Sl.v b.2.2.2.1,Sl.v b.2.2.2.2]) λj=>
 aH (.int .i64) j (h.add 0) λaI=>
 aH (.int .i64) j B λaK=>
 aM (λ(aZ:Unit) (k:PH)=>
 aH .pointer k a1 λaL=>
 aN aL λaA=>
 aH .pointer k (aA.add 1) λaO=>
 aH (.int .i64) k (g.add 0) λaP=>
 aH (.int .i64) k (g.add 1) λL=>
 fb aO aP k λaS z=>
 ar z (g.add 1) (VI L)<|
 aH Sl.v z (h.add 3) λM=>
 bp (λ(l:Int×Int) (d:PH) (q:(Int×Int)->PH->Prop)=>
 aJ (decide (l.2<(M.len:Int)))
 (bX M 4 l.2 λaB=>
 aU (λ(x:(Int×Int×Int×Int))=>[VI x.1,VI x.2.1,VI x.2.2.1,VI x.2.2.2]) d aB 4 λo=>
 ag d (row [VI 0,VI 0,VI 0,VI 0] 230) λC aw=>
 aX aw C ([VI o.1,VI o.2.1,VI o.2.2.1,VI o.2.2.2]) λF=>
 aU (λ(x:(Int×Int×Int×Int))=>[VI x.1,VI x.2.1,VI x.2.2.1,VI x.2.2.2]) F C 4 λp=>
 nt (p.1,p.2.1,p.2.2.1,p.2.2.2) F λaT G=>
 aM (λ(K:Int) (A:PH)=>
 aH .pointer A a1 λaQ=>
 aU (λ(x:(Int×Int×Int×Int))=>[VI x.1,VI x.2.1,VI x.2.2.1,VI x.2.2.2]) A C 4 λi=>
 jg aQ (i.1,i.2.1,i.2.2.1,i.2.2.2) K A λO=>
 q (K,IntKind.wrap .i64 (l.2+1)) O)
 λJ=>
 aJ aT
 (J (IntKind.wrap .i64 (l.1+1)) G)
 (J l.1 G))
 (aH .pointer d a1 λZ=>
 aN Z λU=>
 aH .pointer d (U.add 22) λaa=>
 aH (.int .i64) d (g.add 0) λab=>
 aH (.int .i64) d (h.add 1) λac=>
 jh aa ab ac d λr=>
 aU (λ(x:(Int×Int×Int×Sl×Sl))=>[VI x.1,VI x.2.1,VI x.2.2.1,Sl.v x.2.2.2.1,Sl.v x.2.2.2.2]) r h 5 λe=>
 nu (e.1,e.2.1,e.2.2.1,e.2.2.2.1,e.2.2.2.2) r λaW ak c=>
 aJ ak
 (aH .pointer c a1 λad=>
 aN ad λV=>
 aH .pointer c (V.add 22) λae=>
 aH (.int .i64) c (g.add 0) λaf=>
 kM ae af c λP=>
 N 0 () P)
 (N 0 () c)))
 (IntKind.wrap .i64 (aS+L),0) z)
 λI=>
 aJ (decide (aK<aI))
 (aH (.int .i64) j (h.add 0) λah=>
 aX j B ([VI ah]) λs=>
 aH .pointer s a1 λai=>
 iN ai s λR=>
 I () R)
 (I () j)) () ao λ_ aV t=>
 aH .pointer t a1 λD=>
 qe E t λf u=>
 ar u a1 (.pointer D)<|
 aN D λX=>
 aX u (X.add 34) ([VI f.1,VI f.2.1,VI f.2.2.1,VI f.2.2.2.1,VI f.2.2.2.2]) λw=>
 aH .pointer w a1 λaj=>
 iN aj w λS=>
 qf E S λal T=>
 Q al T
def qU {γ:Type} (c0:Addr) (v:Value) (Y:List Value->γ->PH->(Nat->γ->PH->Prop)->Prop) (g:γ) (H:PH) (Q:Nat->γ->PH->Prop):Prop:=
 ag H (row [v] 184) λa1 w=>
 aH .pointer w c0 λJ=>
 cV J false w λK G=>
 iM K G λL I=>
 iH Tryz.prog L (λ(u:List Value) (o:Nat×γ) (e:PH) (s:Nat->(Nat×γ)->PH->Prop)=>
 ∃(d:Int) (i:Int),u=[VI d,VI i]/\
 aH .pointer e c0 λC=>
 aN C λA=>
 aH .pointer e (A.add 1) λD=>
 fV D d e λt M f=>
 aM (λ(c:Bool×(Nat×γ)) (a:PH)=>
 aM (λ(h:Bool×(Nat×γ)) (j:PH)=>
 aJ h.1
 (s 1 h.2 j)
 (s 0 h.2 j))
 λm=>
 aJ c.1
 (m (true,c.2) a)
 (aM (λ(r:Bool×(Nat×γ)) (x:PH)=>
 m (r.1,r.2) x)
 λn=>
 aJ (decide (0<t))
 (aH id a a1 λE=>
 rV (E=v)<|
 sP Y c.2 [VI d,VI t] a λp y=>
 n (!(p.1==0),p) y)
 (n (false,c.2) a)))
 λl=>
 aJ (decide (0<i))
 (aH id f a1 λF=>
 rV (F=v)<|
 sP Y o [VI d,VI i] f λq z=>
 l (!(q.1==0),q) z)
 (l (false,o) f)) (0,g) I λB b k=>
 aJ (B==1)
 (Q b.1 b.2 k)
 (Q b.1 b.2 k)
def mJ (p0:Option Addr) (H:PH) (Q:Value->PH->Prop):Prop:=
 ag H (row [.pointer p0] 80) λa1 a=>
 Q (.func (.func 191) #[] #[.pointer (some a1)]) a
def km (p0:Option Addr) (p1:Int) (p2:Int) (H:PH) (Q:Bool->PH->Prop):Prop:=
 aJ (Option.isNone p0)
 (Q false H)
 (aN p0 λw=>
 aH .pointer H (w.add 0) λx=>
 nG x p1 H λc y e a=>
 aM (mB (λz (cX:Unit)=>z 9=VB e) (λcX f=>
 Q e f))
 λb=>
 aJ (!e)
 (b () a)
 (aN p0 λi=>
 aH Sl.v a (i.add 2) λq=>
 bX q 1 c λj=>
 aH (.int .i64) a j λr=>
 aJ (decide ((IntKind.wrap .i64 (2147483647-r))<p2))
 (aN p0 λk=>
 aH Sl.v a (k.add 2) λs=>
 bX s 1 c λl=>
 aX a l ([VI 2147483647]) λg=>
 b () g)
 (mP [0,1]<|
 aN p0 λm=>
 mP [2,3]<|
 aH Sl.v a (m.add 2) λt=>
 mP [4,5,6]<|
 aN p0 λn=>
 mP [7,8]<|
 aH Sl.v a (n.add 2) λu=>
 mP [9,10]<|
 bX u 1 c λo=>
 mP [11]<|
 aH (.int .i64) a o λd=>
 mP [12,13,14,15]<|
 bX t 1 c λp=>
 mP [16]<|
 aX a p ([VI (if(IntKind.wrap .i64 (d+p2))< 0 then 0 else(IntKind.wrap .i64 (d+p2)))]) λh=>
 b () h)))
def vv (p0:Option Addr) (p1:Option Addr) (p2:Option Addr) (p3:(Int×Int×Int×Int×Int)) (H:PH) (Q:Option Addr->PH->Prop):Prop:=
 ag H (row [VI p3.1,VI p3.2.1,VI p3.2.2.1,VI p3.2.2.2.1,VI p3.2.2.2.2] 136) λa1 i=>
 aM (mK 3 (λc (s5:Bool)=>c 0=VP p0/\c 1=VP p1/\c 2=VP p2/\c 7=VA a1/\c 14=VB s5) (λs5 l=>
 aM (mK 3 (λc (cX:Bool)=>c 0=VP p0/\c 1=VP p1/\c 2=VP p2/\c 7=VA a1/\c 18=VB cX) (λcX d=>
 aM (mK 5 (λc (f:Bool)=>c 0=VP p0/\c 1=VP p1/\c 2=VP p2/\c 7=VA a1/\c 24=VB f) (λf e=>
 aJ f
 (Q none e)
 (aU (λ(x:(Int×Int×Int×Int×Int))=>[VI x.1,VI x.2.1,VI x.2.2.1,VI x.2.2.2.1,VI x.2.2.2.2]) e a1 5 λa=>
 ag e (row [.pointer p0,.pointer p1,.pointer p2,VI a.1,VI a.2.1,VI a.2.2.1,VI a.2.2.2.1,VI a.2.2.2.2,Sl.v Sl.nil,Sl.v Sl.nil] 289) λm j=>
 Q (some m) j)))
 λh=>
 aJ cX
 (h true d)
 (aU (λ(x:(Int×Int×Int×Int×Int))=>[VI x.1,VI x.2.1,VI x.2.2.1,VI x.2.2.2.1,VI x.2.2.2.2]) d a1 5 λb=>
 qC p1 (b.1,b.2.1,b.2.2.1,b.2.2.2.1,b.2.2.2.2) d λo k=>
 h (!o) k)))
 λg=>
 aJ s5
 (g true l)
 (g (Option.isNone p2) l)))
 λn=>
 aJ (Option.isNone p0)
 (n true i)
 (n (Option.isNone p1) i)
def oE (p0:Option Addr) (p1:Int) (H:PH) (Q:Int->PH->Prop):Prop:=
 gQ p0 p1 H λe H1=>
 aJ (!e)
 (Q 0 H1)
 (aN p0 λb=>
 aH Sl.v H1 (b.add 1) λd=>
 bX d 2 p1 λc=>
 aH (.int .i64) H1 (c.add 0) λa=>
 Q a H1)
def mh (p0:Option Addr) (H:PH) (Q:Option Addr->Int->PH->Prop):Prop:=
 ag H (row [.pointer p0] 149) λa1 L=>
 aH .pointer L a1 λx4=>
 aN x4 λa6=>
 aH .pointer L (a6.add 23) λx8=>
 mJ x8 L λbb ay=>
 iH Tryz.prog bb (λ(aa:List Value) (bf:Unit) (r:PH) (bc:Nat->Unit->PH->Prop)=>
 ∃(aQ:Int) (E:Int),aa=[VI aQ,VI E]/\
 aH .pointer r a1 λaR=>
 aN aR λaA=>
 aH .pointer r (aA.add 22) λaS=>
 km aS E 1 r λbh az=>
 bc 0 () az) () ay λ_ bg s=>
 aH .pointer s a1 λF=>
 aN F λaB=>
 aH (.int .i64) s ((aB.add 2).add 4) λaT=>
 aN F λaC=>
 aX s ((aC.add 2).add 4) ([VI (IntKind.wrap .i64 (aT+1))]) λg=>
 aH .pointer g a1 λaV=>
 aH .pointer g a1 λG=>
 aH .pointer g a1 λaW=>
 aN aW λaD=>
 aH (.int .i64) g ((aD.add 2).add 4) λaY=>
 aH .pointer g a1 λaZ=>
 aN aZ λaE=>
 aH (.int .i64) g ((aE.add 2).add 4) λa0=>
 aN aV λaF=>
 aX g ((aF.add 24).add 5) ([VI aY]) λC=>
 ar C a1 (.pointer G)<|
 aN G λaG=>
 aX C ((aG.add 34).add 4) ([VI a0]) λc=>
 aH .pointer c a1 λa2=>
 aN a2 λaI=>
 aH .pointer c (aI.add 0) λa3=>
 aH .pointer c a1 λa4=>
 aN a4 λaK=>
 aH .pointer c (aK.add 1) λa5=>
 aH .pointer c a1 λa7=>
 aN a7 λaL=>
 aH .pointer c (aL.add 22) λa8=>
 aH .pointer c a1 λa9=>
 aN a9 λaO=>
 aU (λ(x:(Int×Int×Int×Int×Int))=>[VI x.1,VI x.2.1,VI x.2.2.1,VI x.2.2.2.1,VI x.2.2.2.2]) c (aO.add 34) 5 λi=>
 vv a3 a5 a8 (i.1,i.2.1,i.2.2.1,i.2.2.2.1,i.2.2.2.2) c λI t=>
 aH .pointer t a1 λba=>
 aN ba λaP=>
 aU (λ(x:(Int×Int×Int×Int×Int))=>[VI x.1,VI x.2.1,VI x.2.2.1,VI x.2.2.2.1,VI x.2.2.2.2]) t (aP.add 2) 5 λj=>
 mG (j.1,j.2.1,j.2.2.1,j.2.2.2.1,j.2.2.2.2) t λbd be D=>
 aM (λ(Y:Bool) (d:PH)=>
 aM (λ(Z:Bool) (a:PH)=>
 aJ Z
 (Q none 2 a)
 (aM (λ(y:Int) (b:PH)=>
 aJ (y != 0)
 (Q none y b)
 (aH .pointer b a1 λz=>
 aN z λu=>
 aH .pointer b (u.add 0) λA=>
 aH .pointer b a1 λab=>
 aN ab λN=>
 aH .pointer b (N.add 1) λac=>
 aH .pointer b a1 λad=>
 aN ad λO=>
 aH (.int .i64) b ((O.add 2).add 4) λae=>
 kl ac (Int.tmod ae 2) b λaq k=>
 ar k (u.add 0) (.pointer A)<|
 ar k a1 (.pointer z)<|
 fQ A aq bd k λB h=>
 aJ (B != 0)
 (Q none B h)
 (aH .pointer h a1 λaf=>
 aN af λP=>
 aH .pointer h (P.add 0) λah=>
 fR ah h λau J=>
 Q I au J)))
 λV=>
 aH .pointer a a1 λn=>
 aN n λl=>
 aH .pointer a (l.add 0) λo=>
 aH .pointer a a1 λai=>
 aN ai λR=>
 aH .pointer a (R.add 1) λaj=>
 aH .pointer a a1 λak=>
 aN ak λS=>
 aH (.int .i64) a ((S.add 34).add 0) λal=>
 aH .pointer a a1 λp=>
 aN p λm=>
 aH (.int .i64) a ((m.add 34).add 1) λq=>
 rV (sH 1 64 64)<|
 fb aj al a λav e=>
 ar e ((m.add 34).add 1) (VI q)<|
 ar e a1 (.pointer p)<|
 ar e (l.add 0) (.pointer o)<|
 ar e a1 (.pointer n)<|
 mC e (row (bz (64:Int).toNat [.int .u8 0]) 5) 64 64 λX f=>
 ar f ((m.add 34).add 1) (VI q)<|
 ar f a1 (.pointer p)<|
 ar f (l.add 0) (.pointer o)<|
 ar f a1 (.pointer n)<|
 fQ o (IntKind.wrap .i64 (av+q)) X f λaw K=>
 V aw K))
 λw=>
 aJ Y
 (w true d)
 (aH .pointer d a1 λam=>
 aN am λT=>
 aH .pointer d (T.add 22) λan=>
 aH .pointer d a1 λao=>
 aN ao λU=>
 aH (.int .i64) d ((U.add 34).add 0) λap=>
 oE an ap d λax M=>
 w (ax != 1) M))
 λv=>
 aJ (be != 0)
 (v true D)
 (v (Option.isNone I) D)
end
end Go.Proofs.YtbijlklgbfminaaGreat
