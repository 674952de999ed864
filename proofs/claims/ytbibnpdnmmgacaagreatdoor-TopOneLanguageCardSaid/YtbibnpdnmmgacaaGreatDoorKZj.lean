import Derived.Test.YtbibnpdnmmgacaaGreatDoorProg
import Derived.Test.YtbibnpdnmmgacaaGreatDoorKZb
import Derived.KernelRfl
import Derived.Test.YtbibnpdnmmgacaaGreatDoorKZd
set_option linter.unusedVariables false
set_option linter.unusedSimpArgs false
set_option maxRecDepth 100000
namespace Go.Proofs.YtbibnpdnmmgacaaGreatDoor
open Go.Sx
theorem Hi:(Tryz.prog.info? 1).map (·.size)=some 1:=by kernel_rfl
theorem Hh:(Tryz.prog.info? 2).map (·.size)=some 1:=by kernel_rfl
theorem uL:gX Tryz.prog 3 (.int .i64 0) 1 8:=by unfold gX;kernel_rfl
theorem tf:(Tryz.prog.info? 3).map (·.size)=some 1:=by kernel_rfl
theorem cQ:dF Tryz.prog 3:=by unfold dF;kernel_rfl
theorem Mk:Tryz.prog.underlying 3=some (.int .i64):=by kernel_rfl
theorem Mz:gX Tryz.prog 4 (.bool false) 1 1:=by unfold gX;kernel_rfl
theorem IW:(Tryz.prog.info? 4).map (·.size)=some 1:=by kernel_rfl
theorem vk:dF Tryz.prog 4:=by unfold dF;kernel_rfl
theorem T8:Tryz.prog.underlying 4=some .bool:=by kernel_rfl
theorem X5:gX Tryz.prog 5 (.int .u8 0) 1 1:=by unfold gX;kernel_rfl
theorem sz5:(Tryz.prog.info? 5).map (·.size)=some 1:=by kernel_rfl
theorem Xl:dF Tryz.prog 5:=by unfold dF;kernel_rfl
theorem Tw:Tryz.prog.underlying 5=some (.int .u8):=by kernel_rfl
theorem Wr:dF Tryz.prog 9:=by unfold dF;kernel_rfl
theorem DM:Tryz.prog.underlying 9=some .string:=by kernel_rfl
theorem aR:oC Tryz.prog 22 24 3:=⟨by kernel_rfl,by kernel_rfl⟩
theorem zY:(Tryz.prog.info? 22).map (·.size)=some 1:=by kernel_rfl
theorem du:dF Tryz.prog 22:=by unfold dF;kernel_rfl
theorem cC:gX Tryz.prog 24 (.agg #[(.int .i64 0),(.int .i64 0),(.slice none 0 0)]) 3 40:=by unfold gX;kernel_rfl
theorem cy:(Tryz.prog.info? 24).map (·.size)=some 3:=by kernel_rfl
theorem aM:nq Tryz.prog 24 3:=⟨by kernel_rfl,by kernel_rfl⟩
theorem cP:cz Tryz.prog 24 0 0:=cz.of (by kernel_rfl)
theorem gr:cz Tryz.prog 24 1 1:=cz.of (by kernel_rfl)
theorem bM:cz Tryz.prog 24 2 2:=cz.of (by kernel_rfl)
theorem gf:oC Tryz.prog 29 4 1:=⟨by kernel_rfl,by kernel_rfl⟩
theorem M1:(Tryz.prog.info? 29).map (·.size)=some 1:=by kernel_rfl
theorem jx:dF Tryz.prog 29:=by unfold dF;kernel_rfl
theorem kQ:oC Tryz.prog 30 67 1:=⟨by kernel_rfl,by kernel_rfl⟩
theorem M0:(Tryz.prog.info? 30).map (·.size)=some 1:=by kernel_rfl
theorem lC:dF Tryz.prog 30:=by unfold dF;kernel_rfl
theorem lR:gX Tryz.prog 32 (.agg #[(.int .i64 0),(.int .i64 0),(.slice none 0 0),(.slice none 0 0)]) 4 64:=by unfold gX;kernel_rfl
theorem jW:(Tryz.prog.info? 32).map (·.size)=some 4:=by kernel_rfl
theorem eZ:nq Tryz.prog 32 4:=⟨by kernel_rfl,by kernel_rfl⟩
theorem kn:cz Tryz.prog 32 0 0:=cz.of (by kernel_rfl)
theorem kZ:cz Tryz.prog 32 1 1:=cz.of (by kernel_rfl)
theorem dp:cz Tryz.prog 32 2 2:=cz.of (by kernel_rfl)
theorem eQ:cz Tryz.prog 32 3 3:=cz.of (by kernel_rfl)
theorem JE:gX Tryz.prog 42 (.int .u64 0) 1 8:=by unfold gX;kernel_rfl
theorem zX:(Tryz.prog.info? 42).map (·.size)=some 1:=by kernel_rfl
theorem iY:dF Tryz.prog 42:=by unfold dF;kernel_rfl
theorem MZ:Tryz.prog.underlying 42=some (.int .u64):=by kernel_rfl
theorem yt:oC Tryz.prog 43 98 3:=⟨by kernel_rfl,by kernel_rfl⟩
theorem Ua:(Tryz.prog.info? 43).map (·.size)=some 1:=by kernel_rfl
theorem Cd:dF Tryz.prog 43:=by unfold dF;kernel_rfl
theorem HD:gX Tryz.prog 45 (.agg #[(.int .i64 0),(.int .i64 0),(.int .u64 0),(.int .u64 0),(.slice none 0 0)]) 5 56:=by unfold gX;kernel_rfl
theorem B9:(Tryz.prog.info? 45).map (·.size)=some 5:=by kernel_rfl
theorem yz:nq Tryz.prog 45 5:=⟨by kernel_rfl,by kernel_rfl⟩
theorem wN:cz Tryz.prog 45 0 0:=cz.of (by kernel_rfl)
theorem tO:cz Tryz.prog 45 1 1:=cz.of (by kernel_rfl)
theorem Kx:cz Tryz.prog 45 2 2:=cz.of (by kernel_rfl)
theorem tL:cz Tryz.prog 45 3 3:=cz.of (by kernel_rfl)
theorem lY:cz Tryz.prog 45 4 4:=cz.of (by kernel_rfl)
theorem lB:oC Tryz.prog 64 42 1:=⟨by kernel_rfl,by kernel_rfl⟩
theorem Z5:gX Tryz.prog 64 (.slice none 0 0) 1 24:=by unfold gX;kernel_rfl
theorem QV:(Tryz.prog.info? 64).map (·.size)=some 1:=by kernel_rfl
theorem tw:dF Tryz.prog 64:=by unfold dF;kernel_rfl
theorem bX:oC Tryz.prog 67 3 1:=⟨by kernel_rfl,by kernel_rfl⟩
theorem JD:gX Tryz.prog 67 (.slice none 0 0) 1 24:=by unfold gX;kernel_rfl
theorem QU:(Tryz.prog.info? 67).map (·.size)=some 1:=by kernel_rfl
theorem hY:dF Tryz.prog 67:=by unfold dF;kernel_rfl
theorem Z4:gX Tryz.prog 75 (.agg #[(.string ByteArray.empty)]) 1 16:=by unfold gX;kernel_rfl
theorem Yr:(Tryz.prog.info? 75).map (·.size)=some 1:=by kernel_rfl
theorem RE:nq Tryz.prog 75 1:=⟨by kernel_rfl,by kernel_rfl⟩
theorem As:cz Tryz.prog 75 0 0:=cz.of (by kernel_rfl)
theorem Hw:oC Tryz.prog 76 42 1:=⟨by kernel_rfl,by kernel_rfl⟩
theorem Z3:gX Tryz.prog 76 (.slice none 0 0) 1 24:=by unfold gX;kernel_rfl
theorem Yq:(Tryz.prog.info? 76).map (·.size)=some 1:=by kernel_rfl
theorem Q0:dF Tryz.prog 76:=by unfold dF;kernel_rfl
theorem Ji:oC Tryz.prog 79 76 1:=⟨by kernel_rfl,by kernel_rfl⟩
theorem Z2:gX Tryz.prog 79 (.slice none 0 0) 1 24:=by unfold gX;kernel_rfl
theorem Yp:(Tryz.prog.info? 79).map (·.size)=some 1:=by kernel_rfl
theorem M4:dF Tryz.prog 79:=by unfold dF;kernel_rfl
theorem Z1:gX Tryz.prog 92 (.agg #[(.int .i64 0),(.slice none 0 0)]) 2 32:=by unfold gX;kernel_rfl
theorem Yo:(Tryz.prog.info? 92).map (·.size)=some 2:=by kernel_rfl
theorem Ar:cz Tryz.prog 92 0 0:=cz.of (by kernel_rfl)
theorem EA:cz Tryz.prog 92 1 1:=cz.of (by kernel_rfl)
theorem Eh:gX Tryz.prog 94 (.agg #[(.int .u64 0),(.int .u64 0),(.bool false)]) 3 24:=by unfold gX;kernel_rfl
theorem tt:(Tryz.prog.info? 94).map (·.size)=some 3:=by kernel_rfl
theorem Af:nq Tryz.prog 94 3:=⟨by kernel_rfl,by kernel_rfl⟩
theorem oV:cz Tryz.prog 94 0 0:=cz.of (by kernel_rfl)
theorem nA:cz Tryz.prog 94 1 1:=cz.of (by kernel_rfl)
theorem lX:cz Tryz.prog 94 2 2:=cz.of (by kernel_rfl)
theorem JC:gX Tryz.prog 98 (.agg #[(.int .i64 0),(.int .i64 0),(.int .i64 0)]) 3 24:=by unfold gX;kernel_rfl
theorem T9:(Tryz.prog.info? 98).map (·.size)=some 3:=by kernel_rfl
theorem Cm:nq Tryz.prog 98 3:=⟨by kernel_rfl,by kernel_rfl⟩
theorem wM:cz Tryz.prog 98 0 0:=cz.of (by kernel_rfl)
theorem wL:cz Tryz.prog 98 1 1:=cz.of (by kernel_rfl)
theorem wK:cz Tryz.prog 98 2 2:=cz.of (by kernel_rfl)
theorem Co:oC Tryz.prog 102 64 1:=⟨by kernel_rfl,by kernel_rfl⟩
theorem VM:gX Tryz.prog 102 (.slice none 0 0) 1 24:=by unfold gX;kernel_rfl
theorem U1:(Tryz.prog.info? 102).map (·.size)=some 1:=by kernel_rfl
theorem FV:dF Tryz.prog 102:=by unfold dF;kernel_rfl
theorem Pp:Tryz.prog.underlying 130=some (.int .u64):=by kernel_rfl
theorem Pw:dF Tryz.prog 133:=by unfold dF;kernel_rfl
theorem Px:Tryz.prog.underlying 133=some (.map 9 3):=by kernel_rfl
theorem Bw:cz Tryz.prog 135 0 0:=cz.of (by kernel_rfl)
theorem kH:cz Tryz.prog 135 1 1:=cz.of (by kernel_rfl)
theorem Bv:cz Tryz.prog 135 2 2:=cz.of (by kernel_rfl)
theorem vR:cz Tryz.prog 135 3 3:=cz.of (by kernel_rfl)
theorem eE:cz Tryz.prog 137 0 0:=cz.of (by kernel_rfl)
theorem GX:cz Tryz.prog 137 1 4:=cz.of (by kernel_rfl)
theorem qx:gX Tryz.prog 142 (.agg #[(.int .i64 0),(.int .i64 0),(.slice none 0 0),(.int .i64 0),(.int .i64 0),(.slice none 0 0),(.bool false)]) 7 88:=by unfold gX;kernel_rfl
theorem iq:(Tryz.prog.info? 142).map (·.size)=some 7:=by kernel_rfl
theorem jH:nq Tryz.prog 142 7:=⟨by kernel_rfl,by kernel_rfl⟩
theorem r9:cz Tryz.prog 142 0 0:=cz.of (by kernel_rfl)
theorem Bu:cz Tryz.prog 142 1 3:=cz.of (by kernel_rfl)
theorem r8:cz Tryz.prog 142 2 6:=cz.of (by kernel_rfl)
theorem uS:nq Tryz.prog 144 2:=⟨by kernel_rfl,by kernel_rfl⟩
theorem OI:cz Tryz.prog 144 0 0:=cz.of (by kernel_rfl)
theorem OH:cz Tryz.prog 144 1 1:=cz.of (by kernel_rfl)
theorem FG:oC Tryz.prog 161 164 2:=⟨by kernel_rfl,by kernel_rfl⟩
theorem VL:gX Tryz.prog 161 (.slice none 0 0) 1 24:=by unfold gX;kernel_rfl
theorem U0:(Tryz.prog.info? 161).map (·.size)=some 1:=by kernel_rfl
theorem FU:dF Tryz.prog 161:=by unfold dF;kernel_rfl
theorem VK:gX Tryz.prog 164 (.agg #[(.int .i64 0),(.int .i64 0)]) 2 16:=by unfold gX;kernel_rfl
theorem Qe:Ek Tryz.prog 164 3 2 1:=⟨by kernel_rfl,by kernel_rfl⟩
theorem UZ:(Tryz.prog.info? 174).map (·.size)=some 1:=by kernel_rfl
theorem yV:dF Tryz.prog 174:=by unfold dF;kernel_rfl
theorem yX:Tryz.prog.underlying 174=some (.map 42 3):=by kernel_rfl
theorem VJ:gX Tryz.prog 176 (.agg #[(.slice none 0 0),(.map none)]) 2 32:=by unfold gX;kernel_rfl
theorem jT:cz Tryz.prog 176 0 0:=cz.of (by kernel_rfl)
theorem nK:cz Tryz.prog 176 1 1:=cz.of (by kernel_rfl)
theorem VI:gX Tryz.prog 178 .nilFunc 1 8:=by unfold gX;kernel_rfl
theorem UY:(Tryz.prog.info? 178).map (·.size)=some 1:=by kernel_rfl
theorem JY:gX Tryz.prog 182 (.agg #[(.int .i64 0),(.int .i64 0),(.int .i64 0),(.int .i64 0)]) 4 32:=by unfold gX;kernel_rfl
theorem Pr:(Tryz.prog.info? 182).map (·.size)=some 4:=by kernel_rfl
theorem Qh:nq Tryz.prog 182 4:=⟨by kernel_rfl,by kernel_rfl⟩
theorem GW:cz Tryz.prog 182 0 0:=cz.of (by kernel_rfl)
theorem GV:cz Tryz.prog 182 1 1:=cz.of (by kernel_rfl)
theorem GU:cz Tryz.prog 182 2 2:=cz.of (by kernel_rfl)
theorem OG:cz Tryz.prog 182 3 3:=cz.of (by kernel_rfl)
theorem Cn:oC Tryz.prog 183 182 4:=⟨by kernel_rfl,by kernel_rfl⟩
theorem nX:oC Tryz.prog 184 5 1:=⟨by kernel_rfl,by kernel_rfl⟩
theorem Pq:(Tryz.prog.info? 184).map (·.size)=some 1:=by kernel_rfl
theorem FR:dF Tryz.prog 184:=by unfold dF;kernel_rfl
theorem UX:(Tryz.prog.info? 189).map (·.size)=some 1:=by kernel_rfl
theorem JM:dF Tryz.prog 189:=by unfold dF;kernel_rfl
theorem VH:gX Tryz.prog 191 (.agg #[(.pointer none),(.slice none 0 0)]) 2 32:=by unfold gX;kernel_rfl
theorem vQ:cz Tryz.prog 191 0 0:=cz.of (by kernel_rfl)
theorem pK:cz Tryz.prog 191 1 1:=cz.of (by kernel_rfl)
theorem Cq:Tryz.prog.underlying 194=some (.map 196 3):=by kernel_rfl
theorem VG:gX Tryz.prog 196 (.agg #[(.int .i64 0),(.int .i64 0),(.int .i64 0),(.int .i64 0),(.int .i64 0),(.int .i64 0),(.int .i64 0)]) 7 56:=by unfold gX;kernel_rfl
theorem UW:(Tryz.prog.info? 196).map (·.size)=some 7:=by kernel_rfl
theorem Qg:nq Tryz.prog 196 7:=⟨by kernel_rfl,by kernel_rfl⟩
theorem Qd:Ek Tryz.prog 196 3 7 1:=⟨by kernel_rfl,by kernel_rfl⟩
theorem Wi:Ek Tryz.prog 197 5 64 1:=⟨by kernel_rfl,by kernel_rfl⟩
theorem UU:(Tryz.prog.info? 211).map (·.size)=some 1:=by kernel_rfl
theorem yU:dF Tryz.prog 211:=by unfold dF;kernel_rfl
theorem rR:Tryz.prog.underlying 211=some (.map 3 3):=by kernel_rfl
theorem VE:gX Tryz.prog 213 (.agg #[(.slice none 0 0),(.map none)]) 2 32:=by unfold gX;kernel_rfl
theorem jS:cz Tryz.prog 213 0 0:=cz.of (by kernel_rfl)
theorem nJ:cz Tryz.prog 213 1 1:=cz.of (by kernel_rfl)
theorem co7:aj Tryz.prog 7:=by unfold aj;kernel_rfl
theorem QL:aj Tryz.prog 9:=by unfold aj;kernel_rfl
theorem aaA:aj Tryz.prog 10:=by unfold aj;kernel_rfl
theorem US:aj Tryz.prog 11:=by unfold aj;kernel_rfl
theorem Ae:aj Tryz.prog 13:=by unfold aj;kernel_rfl
theorem Ng:aj Tryz.prog 15:=by unfold aj;kernel_rfl
theorem aaz:aj Tryz.prog 17:=by unfold aj;kernel_rfl
theorem UQ:aj Tryz.prog 20:=by unfold aj;kernel_rfl
theorem HF:aj Tryz.prog 23:=by unfold aj;kernel_rfl
theorem UP:aj Tryz.prog 24:=by unfold aj;kernel_rfl
theorem aay:aj Tryz.prog 30:=by unfold aj;kernel_rfl
theorem UO:aj Tryz.prog 31:=by unfold aj;kernel_rfl
theorem UN:aj Tryz.prog 32:=by unfold aj;kernel_rfl
theorem aax:aj Tryz.prog 33:=by unfold aj;kernel_rfl
theorem aaw:aj Tryz.prog 34:=by unfold aj;kernel_rfl
theorem aav:aj Tryz.prog 35:=by unfold aj;kernel_rfl
theorem Rz:aj Tryz.prog 36:=by unfold aj;kernel_rfl
theorem Ry:aj Tryz.prog 37:=by unfold aj;kernel_rfl
theorem aau:aj Tryz.prog 38:=by unfold aj;kernel_rfl
theorem UM:aj Tryz.prog 39:=by unfold aj;kernel_rfl
theorem Rx:aj Tryz.prog 40:=by unfold aj;kernel_rfl
theorem aat:aj Tryz.prog 41:=by unfold aj;kernel_rfl
theorem aas:aj Tryz.prog 42:=by unfold aj;kernel_rfl
theorem Nf:aj Tryz.prog 43:=by unfold aj;kernel_rfl
theorem aar:aj Tryz.prog 44:=by unfold aj;kernel_rfl
theorem UL:aj Tryz.prog 45:=by unfold aj;kernel_rfl
theorem aaq:aj Tryz.prog 46:=by unfold aj;kernel_rfl
theorem aap:aj Tryz.prog 47:=by unfold aj;kernel_rfl
theorem aao:aj Tryz.prog 48:=by unfold aj;kernel_rfl
theorem UK:aj Tryz.prog 49:=by unfold aj;kernel_rfl
theorem aan:aj Tryz.prog 51:=by unfold aj;kernel_rfl
theorem Ei:aj Tryz.prog 52:=by unfold aj;kernel_rfl
theorem UJ:aj Tryz.prog 53:=by unfold aj;kernel_rfl
theorem UI:aj Tryz.prog 54:=by unfold aj;kernel_rfl
theorem Nd:aj Tryz.prog 55:=by unfold aj;kernel_rfl
theorem Rw:aj Tryz.prog 56:=by unfold aj;kernel_rfl
theorem UH:aj Tryz.prog 57:=by unfold aj;kernel_rfl
theorem UG:aj Tryz.prog 58:=by unfold aj;kernel_rfl
theorem aam:aj Tryz.prog 59:=by unfold aj;kernel_rfl
theorem aal:aj Tryz.prog 61:=by unfold aj;kernel_rfl
theorem UF:aj Tryz.prog 74:=by unfold aj;kernel_rfl
theorem aak:aj Tryz.prog 76:=by unfold aj;kernel_rfl
theorem JG:aj Tryz.prog 77:=by unfold aj;kernel_rfl
theorem Rv:aj Tryz.prog 78:=by unfold aj;kernel_rfl
theorem aaj:aj Tryz.prog 79:=by unfold aj;kernel_rfl
theorem JF:aj Tryz.prog 80:=by unfold aj;kernel_rfl
theorem aai:aj Tryz.prog 81:=by unfold aj;kernel_rfl
theorem aah:aj Tryz.prog 82:=by unfold aj;kernel_rfl
theorem aag:aj Tryz.prog 83:=by unfold aj;kernel_rfl
theorem aaf:aj Tryz.prog 84:=by unfold aj;kernel_rfl
theorem aae:aj Tryz.prog 85:=by unfold aj;kernel_rfl
theorem aad:aj Tryz.prog 86:=by unfold aj;kernel_rfl
theorem aac:aj Tryz.prog 87:=by unfold aj;kernel_rfl
theorem aab:aj Tryz.prog 88:=by unfold aj;kernel_rfl
theorem UE:aj Tryz.prog 89:=by unfold aj;kernel_rfl
theorem Ru:aj Tryz.prog 90:=by unfold aj;kernel_rfl
theorem aaa:aj Tryz.prog 95:=by unfold aj;kernel_rfl
theorem Z9:aj Tryz.prog 96:=by unfold aj;kernel_rfl
theorem Z8:aj Tryz.prog 97:=by unfold aj;kernel_rfl
theorem HE:aj Tryz.prog 98:=by unfold aj;kernel_rfl
theorem UD:aj Tryz.prog 99:=by unfold aj;kernel_rfl
theorem J6:aj Tryz.prog 100:=by unfold aj;kernel_rfl
theorem Qa:aj Tryz.prog 101:=by unfold aj;kernel_rfl
theorem Wh:aj Tryz.prog 102:=by unfold aj;kernel_rfl
theorem Cy:aj Tryz.prog 103:=by unfold aj;kernel_rfl
theorem Wg:aj Tryz.prog 104:=by unfold aj;kernel_rfl
theorem Cw:aj Tryz.prog 105:=by unfold aj;kernel_rfl
theorem P9:aj Tryz.prog 106:=by unfold aj;kernel_rfl
theorem P8:aj Tryz.prog 107:=by unfold aj;kernel_rfl
theorem P7:aj Tryz.prog 108:=by unfold aj;kernel_rfl
theorem Wf:aj Tryz.prog 109:=by unfold aj;kernel_rfl
theorem P6:aj Tryz.prog 110:=by unfold aj;kernel_rfl
theorem We:aj Tryz.prog 111:=by unfold aj;kernel_rfl
theorem Cv:aj Tryz.prog 112:=by unfold aj;kernel_rfl
theorem Wd:aj Tryz.prog 113:=by unfold aj;kernel_rfl
theorem Wc:aj Tryz.prog 114:=by unfold aj;kernel_rfl
theorem P0:aj Tryz.prog 115:=by unfold aj;kernel_rfl
theorem Wb:aj Tryz.prog 123:=by unfold aj;kernel_rfl
theorem Wa:aj Tryz.prog 124:=by unfold aj;kernel_rfl
theorem V9:aj Tryz.prog 125:=by unfold aj;kernel_rfl
theorem PZ:aj Tryz.prog 126:=by unfold aj;kernel_rfl
theorem PX:aj Tryz.prog 127:=by unfold aj;kernel_rfl
theorem V8:aj Tryz.prog 128:=by unfold aj;kernel_rfl
theorem F5:aj Tryz.prog 129:=by unfold aj;kernel_rfl
theorem V7:aj Tryz.prog 130:=by unfold aj;kernel_rfl
theorem J5:aj Tryz.prog 131:=by unfold aj;kernel_rfl
theorem V6:aj Tryz.prog 132:=by unfold aj;kernel_rfl
theorem PW:aj Tryz.prog 133:=by unfold aj;kernel_rfl
theorem V5:aj Tryz.prog 134:=by unfold aj;kernel_rfl
theorem V4:aj Tryz.prog 135:=by unfold aj;kernel_rfl
theorem F4:aj Tryz.prog 136:=by unfold aj;kernel_rfl
theorem PV:aj Tryz.prog 137:=by unfold aj;kernel_rfl
theorem PU:aj Tryz.prog 138:=by unfold aj;kernel_rfl
theorem V3:aj Tryz.prog 139:=by unfold aj;kernel_rfl
theorem J4:aj Tryz.prog 142:=by unfold aj;kernel_rfl
theorem PT:aj Tryz.prog 149:=by unfold aj;kernel_rfl
theorem nZ:aj Tryz.prog 150:=by unfold aj;kernel_rfl
theorem Cu:aj Tryz.prog 151:=by unfold aj;kernel_rfl
theorem V2:aj Tryz.prog 152:=by unfold aj;kernel_rfl
theorem J3:aj Tryz.prog 153:=by unfold aj;kernel_rfl
theorem V1:aj Tryz.prog 154:=by unfold aj;kernel_rfl
theorem V0:aj Tryz.prog 155:=by unfold aj;kernel_rfl
theorem PQ:aj Tryz.prog 165:=by unfold aj;kernel_rfl
theorem PO:aj Tryz.prog 167:=by unfold aj;kernel_rfl
theorem VZ:aj Tryz.prog 168:=by unfold aj;kernel_rfl
theorem VY:aj Tryz.prog 169:=by unfold aj;kernel_rfl
theorem VX:aj Tryz.prog 170:=by unfold aj;kernel_rfl
theorem F3:aj Tryz.prog 171:=by unfold aj;kernel_rfl
theorem VW:aj Tryz.prog 172:=by unfold aj;kernel_rfl
theorem VV:aj Tryz.prog 173:=by unfold aj;kernel_rfl
theorem VU:aj Tryz.prog 174:=by unfold aj;kernel_rfl
theorem J2:aj Tryz.prog 175:=by unfold aj;kernel_rfl
theorem rT:aj Tryz.prog 176:=by unfold aj;kernel_rfl
theorem Ct:aj Tryz.prog 177:=by unfold aj;kernel_rfl
theorem VT:aj Tryz.prog 178:=by unfold aj;kernel_rfl
theorem VS:aj Tryz.prog 184:=by unfold aj;kernel_rfl
theorem PN:aj Tryz.prog 192:=by unfold aj;kernel_rfl
theorem J1:aj Tryz.prog 193:=by unfold aj;kernel_rfl
theorem J0:aj Tryz.prog 194:=by unfold aj;kernel_rfl
theorem PM:aj Tryz.prog 195:=by unfold aj;kernel_rfl
theorem F0:aj Tryz.prog 196:=by unfold aj;kernel_rfl
theorem VR:aj Tryz.prog 197:=by unfold aj;kernel_rfl
theorem PL:aj Tryz.prog 198:=by unfold aj;kernel_rfl
theorem VQ:aj Tryz.prog 199:=by unfold aj;kernel_rfl
theorem PK:aj Tryz.prog 200:=by unfold aj;kernel_rfl
theorem VP:aj Tryz.prog 205:=by unfold aj;kernel_rfl
theorem mixed:Tryz.prog.follows .mixedOrders=true:=by kernel_rfl
end Go.Proofs.YtbibnpdnmmgacaaGreatDoor
namespace Go.Proofs.YtbibnpdnmmgacaaGreatDoor
open Go.Sx Go.RowKit
theorem pR (w:World) (e:Ex) (s:Value):aK Tryz.prog 171 [.agg #[.int .i64 e.op,.int .i64 e.lt,s]] w (fun r o=>r = .bool (bb e)∧o=[]):=by
 refine aC Tryz.func171 rfl (aT rfl) ?_
 refine .sr fun _ bl=>?_
 refine .cS (E:=24) (cs:=[.int .i64 e.op,.int .i64 e.lt,s]) rfl rfl rfl trivial rfl (fun jV=>?_)
 refine .as rfl (.nt bl ?_)
 refine .sr fun _ bg=>?_
 refine .v (.fieldAddr cP rfl) (.v (.aa cQ rfl ax rfl) (.v (.eql rfl rfl) (.as rfl (.nt bg (.ret ?_)))))
 refine .aG rfl rfl (fun w hw=>⟨_,_,?_,rfl,.of (hw.pk [])⟩)
 exact ⟨rfl,rfl⟩
theorem Le (w:World) (e:Ex) (s:Value):aK Tryz.prog 197 [.agg #[.int .i64 e.op,.int .i64 e.lt,s]] w (fun r o=>r = .bool (eA e)∧o=[]):=by
 refine aC Tryz.func197 rfl (aT rfl) ?_
 refine .sr fun _ bl=>?_
 refine .cS (E:=24) (cs:=[.int .i64 e.op,.int .i64 e.lt,s]) rfl rfl rfl trivial rfl (fun jV=>?_)
 refine .as rfl (.nt bl ?_)
 refine .sr fun _ bg=>?_
 refine .v (.fieldAddr cP rfl) (.v (.aa cQ rfl ax rfl) (.v (.eql rfl rfl) (.as rfl (.nt bg (.ret ?_)))))
 refine .aG rfl rfl (fun w hw=>⟨_,_,?_,rfl,.of (hw.pk [])⟩)
 exact ⟨rfl,rfl⟩
theorem wW (w:World) (e:Ex) (s:Value) (h:dy (bD (fun _=>False) w) s e.kids):aK Tryz.prog 142 [.agg #[.int .i64 e.op,.int .i64 e.lt,s]] w (fun r o=>r = .bool (fE e)∧o=[]):=by
 obtain ⟨ss,hl,hx,hk⟩:=h.inv
 have hr:=hx.rd
 have hm:=hr.le
 refine aC Tryz.func142 rfl (aT rfl) ?_
 refine .sr fun _ bl=>?_
 refine .cS (E:=24) (cs:=[.int .i64 e.op,.int .i64 e.lt,s]) rfl rfl rfl trivial rfl (fun jV=>?_)
 refine .as rfl (.nt bl ?_)
 refine .sr fun _ bg=>?_
 refine .v (.fieldAddr cP rfl) (.v (.aa cQ rfl ax rfl) (.v (.eql rfl rfl) (.mv rfl ?_)))
 refine .bQ (g:=6) rfl (fun a7=>?_) (fun a7=>?_)
 ·have dP:=a7
  try simp only [bs] at dP
  refine .val _ (.fieldAddr bM rfl) ⟨_,rfl,gB a7⟩ rfl ?_
  refine .val _ (.aa du rfl ax rfl) ⟨_,rfl,gB a7⟩ rfl ?_
  refine .val _ (.aZ aR rfl a8) ⟨_,rfl,gB a7⟩ rfl ?_
  refine .val _ (.eql rfl rfl) ⟨_,rfl,gB a7⟩ rfl ?_
  refine .v (.bw rfl (a7) rfl) (.mv rfl ?_)
  refine .bQ (g:=12) rfl (fun ij=>?_) (fun ij=>?_)
  ·have Bl:=ij
   try simp only [bs] at Bl
   refine .val _ (.fieldAddr bM rfl) ⟨_,rfl,gB ij⟩ rfl ?_
   refine .val _ (.aa du rfl ax rfl) ⟨_,rfl,gB ij⟩ rfl ?_
   refine .val _ (.qi (k:=0) aR rfl rfl a8 (by decide) (by have:=ij;simp at this;omega)) ⟨_,rfl,gB ij⟩ rfl ?_
   refine .val _ (.da aM rfl a8 (by assumption) rfl (by omega)) ⟨_,rfl,gB ij⟩ rfl ?_
   refine .call F3 rfl (fun w hw=>pR w _ _) ⟨_,rfl,gB ij⟩ rfl ?_
   rintro r o ⟨rfl,rfl⟩
   refine .v (.bw rfl (ij) rfl) (.as rfl (.nt bg (.ret ?_)))
   refine .aG rfl rfl (fun w hw=>⟨_,_,?_,rfl,.of (hw.pk [])⟩)
   refine ⟨congrArg Value.bool ?_,rfl⟩
   unfold fE
   (have g:e.kids.length=1:=(by omega);simp [dP,g];done)
  ·have Bl:=ij
   try simp only [bs] at Bl
   refine .pass rfl rfl (ij) rfl ?_
   refine .pass rfl rfl (ij) rfl ?_
   refine .pass rfl rfl (ij) rfl ?_
   refine .pass rfl rfl (ij) rfl ?_
   refine .pass rfl rfl (ij) rfl ?_
   refine .v (.cH rfl (ij) rfl) (.as rfl (.nt bg (.ret ?_)))
   refine .aG rfl rfl (fun w hw=>⟨_,_,?_,rfl,.of (hw.pk [])⟩)
   refine ⟨congrArg Value.bool ?_,rfl⟩
   unfold fE
   (have g:¬ e.kids.length=1:=(by omega);simp [g];done)
 ·have dP:=a7
  try simp only [bs] at dP
  refine .pass rfl rfl (a7) rfl ?_
  refine .pass rfl rfl (a7) rfl ?_
  refine .pass rfl rfl (a7) rfl ?_
  refine .pass rfl rfl (a7) rfl ?_
  refine .v (.cH rfl (a7) rfl) (.mv rfl ?_)
  refine .pass rfl rfl rfl rfl ?_
  refine .pass rfl rfl rfl rfl ?_
  refine .pass rfl rfl rfl rfl ?_
  refine .pass rfl rfl rfl rfl ?_
  refine .pass rfl rfl rfl rfl ?_
  refine .v (.cH rfl (rfl) rfl) (.as rfl (.nt bg (.ret ?_)))
  refine .aG rfl rfl (fun w hw=>⟨_,_,?_,rfl,.of (hw.pk [])⟩)
  refine ⟨congrArg Value.bool ?_,rfl⟩
  unfold fE
  (simp [dP];done)
theorem vH (w:World):aK Tryz.prog 196 [] w (fun r o=>r = .agg #[.int .i64 aP.op,.int .i64 aP.lt,aW]∧o=[]):=by
 refine aC Tryz.func196 rfl (aT rfl) ?_
 refine .sr fun _ bl=>?_
 refine .alloc cC rfl rfl trivial rfl (fun bx0=>?_)
 refine .nt bl ?_
 refine .sr fun _ bg=>?_
 refine .v (.build (parts:=[(0,.const (.int .i64 1))]) (cs:=#[.int .i64 aP.op,.int .i64 aP.lt,.slice none 0 0]) rfl (by kernel_rfl)) ?_
 refine .ah 0 (us:=[.int .i64 aP.op,.int .i64 aP.lt,.slice none 0 0]) (cs':=[.int .i64 aP.op,.int .i64 aP.lt,.slice none 0 0]) rfl cy rfl rfl rfl rfl aJ (aT rfl) rfl trivial ?_
 refine .nt bg (.ret ?_)
 refine .cO [.cell 0 24] rfl (.cons (.cell aM rfl ax rfl rfl) (.nil)) (fun w hw=>⟨_,_,?_,rfl,.of (hw.pk [])⟩)
 exact ⟨rfl,rfl⟩
theorem Em (w:World):aK Tryz.prog 175 [] w (fun r o=>r = .agg #[.int .i64 bu.op,.int .i64 bu.lt,aW]∧o=[]):=by
 refine aC Tryz.func175 rfl (aT rfl) ?_
 refine .sr fun _ bl=>?_
 refine .alloc cC rfl rfl trivial rfl (fun bx0=>?_)
 refine .nt bl ?_
 refine .sr fun _ bg=>?_
 refine .v (.build (parts:=[(0,.const (.int .i64 2))]) (cs:=#[.int .i64 bu.op,.int .i64 bu.lt,.slice none 0 0]) rfl (by kernel_rfl)) ?_
 refine .ah 0 (us:=[.int .i64 bu.op,.int .i64 bu.lt,.slice none 0 0]) (cs':=[.int .i64 bu.op,.int .i64 bu.lt,.slice none 0 0]) rfl cy rfl rfl rfl rfl aJ (aT rfl) rfl trivial ?_
 refine .nt bg (.ret ?_)
 refine .cO [.cell 0 24] rfl (.cons (.cell aM rfl ax rfl rfl) (.nil)) (fun w hw=>⟨_,_,?_,rfl,.of (hw.pk [])⟩)
 exact ⟨rfl,rfl⟩
theorem Gq (w:World) (op:Int):aK Tryz.prog 200 [.int .i64 op] w (fun r o=>r = .int .i64 (eh op)∧o=[]):=by
 refine aC Tryz.func200 rfl (aT rfl) ?_
 refine .sr fun _ bl=>?_
 refine .as rfl (.nt bl ?_)
 refine .seq fun _ bg=>?_
 refine .sr fun _ bW=>?_
 refine .mv rfl (.nt bW (.block ?_))
 refine .sr fun _ cr=>?_
 refine .v (.eql rfl rfl) (.as rfl (.nt cr ?_))
 refine .aA rfl (fun bx=>?_) (fun bx=>?_)
 ·refine .sr fun _ cJ=>?_
  refine .as rfl (.nt cJ (.ret (.al (.ae ?_))))
  refine .aG rfl rfl (fun w hw=>⟨_,_,?_,rfl,.of (hw.pk [])⟩)
  refine ⟨congrArg (Value.int .i64) ?_,rfl⟩
  unfold eh
  simp_all
 ·refine .sr fun _ cU=>?_
  refine .v (.eql rfl rfl) (.as rfl (.nt cU ?_))
  refine .aA rfl (fun cB=>?_) (fun cB=>?_)
  ·refine .sr fun _ c7=>?_
   refine .as rfl (.nt c7 (.ret (.al (.ae ?_))))
   refine .aG rfl rfl (fun w hw=>⟨_,_,?_,rfl,.of (hw.pk [])⟩)
   refine ⟨congrArg (Value.int .i64) ?_,rfl⟩
   unfold eh
   simp_all
  ·refine .sr fun _ dm=>?_
   refine .v (.eql rfl rfl) (.as rfl (.nt dm ?_))
   refine .aA rfl (fun cZ=>?_) (fun cZ=>?_)
   ·refine .sr fun _ dD=>?_
    refine .as rfl (.nt dD (.ret (.al (.ae ?_))))
    refine .aG rfl rfl (fun w hw=>⟨_,_,?_,rfl,.of (hw.pk [])⟩)
    refine ⟨congrArg (Value.int .i64) ?_,rfl⟩
    unfold eh
    simp_all
   ·refine .sr fun _ bJ=>?_
    refine .v (.eql rfl rfl) (.as rfl (.nt bJ ?_))
    refine .aA rfl (fun iz=>?_) (fun iz=>?_)
    ·refine .sr fun _ bP=>?_
     refine .as rfl (.nt bP (.ret (.al (.ae ?_))))
     refine .aG rfl rfl (fun w hw=>⟨_,_,?_,rfl,.of (hw.pk [])⟩)
     refine ⟨congrArg (Value.int .i64) ?_,rfl⟩
     unfold eh
     simp_all
    ·refine .sr fun _ ct=>?_
     refine .v (.eql rfl rfl) (.as rfl (.nt ct ?_))
     refine .aA rfl (fun gn=>?_) (fun gn=>?_)
     ·refine .sr fun _ cK=>?_
      refine .as rfl (.nt cK (.ret (.al (.ae ?_))))
      refine .aG rfl rfl (fun w hw=>⟨_,_,?_,rfl,.of (hw.pk [])⟩)
      refine ⟨congrArg (Value.int .i64) ?_,rfl⟩
      unfold eh
      simp_all
     ·refine .skip (.ag ?_)
      refine .ab (bg _ ?_)
      refine .sr fun _ cW=>?_
      refine .as rfl (.nt cW (.ret ?_))
      refine .aG rfl rfl (fun w hw=>⟨_,_,?_,rfl,.of (hw.pk [])⟩)
      refine ⟨congrArg (Value.int .i64) ?_,rfl⟩
      unfold eh
      simp_all
theorem Kf (w:World):aK Tryz.prog 192 [] w (fun r o=>∃ s,r = .agg #[.int .i64 gg.op,.int .i64 gg.lt,s]∧o=[row s 24 3 1 (dc [aP] [aW])]):=by
 refine aC Tryz.func192 rfl (aT rfl) ?_
 refine .sr fun _ bl=>?_
 refine .alloc cC rfl rfl trivial rfl (fun bx0=>?_)
 refine .nt bl ?_
 refine .sr fun _ bg=>?_
 refine .call F0 rfl (fun w hw=>vH w) trivial rfl ?_
 rintro r o ⟨rfl,rfl⟩
 refine .lit (xs:=[.tmp 1]) aR cC rfl rfl rfl (by simp [Value.cells]) (by decide) (by decide) trivial rfl (fun lv=>?_)
 refine .shape 1 rfl (fun BP=>?_)
 refine .v (.build (parts:=[(0,.const (.int .i64 8)),(2,.tmp 2)]) (cs:=#[.int .i64 gg.op,.int .i64 gg.lt,lv]) rfl (by obtain ⟨_,_,_,rfl⟩:=BP;kernel_rfl)) ?_
 refine .ah 0 (us:=[.int .i64 gg.op,.int .i64 gg.lt,lv]) (cs':=[.int .i64 gg.op,.int .i64 gg.lt,lv]) rfl cy rfl rfl rfl rfl aJ (aT rfl) rfl trivial ?_
 refine .nt bg (.ret ?_)
 refine .cO [.cell 0 24] rfl (.cons (.cell aM rfl ax rfl rfl) (.nil)) (fun w hw=>⟨_,_,?_,rfl,.of (hw.pk [1])⟩)
 exact ⟨_,rfl,rfl⟩
def Ql (d:Nat):Prop:=∀ (w:World) (F:Nat→Prop) (lb:Nat) (e:Ex) (s:Value) (left:Nat) (hA:(box lb 3 1 [.int .i64 (left:Int)]).holds w F) (hle:left≤400) (hd:d≤40) (h:dy (bD F w) s e.kids),
 ck Tryz.prog 149 [.agg #[.int .i64 e.op,.int .i64 e.lt,s],.int .i64 (d:Int),.pointer (some ⟨lb,0,none⟩)] w F (fun r A o=>∃ (b:Bool) (l2:Nat),r = .bool b∧A=box lb 3 1 [.int .i64 (l2:Int)]∧l2≤400∧o=[]∧gz d e left=if b then some l2 else none)
theorem DF {d:Nat} {ks:List Ex} {k:Nat} {l0 l:Nat} (h:(ks.take k).foldlM (fun l k=>gz d k l) l0=some l) (hk:k<ks.length) (hn:gz d (ks.getD k default) l=none):ks.foldlM (fun l k=>gz d k l) l0=none:=by
 have e:ks=ks.take k++ks.getD k default :: ks.drop (k+1):=by
  rw [show ks.getD k default=ks[k] by simp [List.getD_eq_getElem?_getD,hk]]
  simp
 rw [e,List.foldlM_append,h]
 simp only [Option.bind_eq_bind,Option.bind_some,List.foldlM_cons,hn,Option.bind_none]
theorem DE {d:Nat} {ks:List Ex} {k:Nat} {l0 l l2:Nat} (h:(ks.take k).foldlM (fun l k=>gz d k l) l0=some l) (hk:k<ks.length) (hn:gz d (ks.getD k default) l=some l2):(ks.take (k+1)).foldlM (fun l k=>gz d k l) l0=some l2:=by
 rw [aO default ks k hk,List.foldlM_append,h]
 simp only [Option.bind_eq_bind,Option.bind_some,List.foldlM_cons,hn,List.foldlM_nil]
 rfl
set_option maxHeartbeats 400000 in
theorem u3 (d:Nat) (ih:∀ d',d=d'+1→Ql d') (w:World) (F:Nat→Prop) (lb:Nat) (e:Ex) (s:Value) (left:Nat) (hA:(box lb 3 1 [.int .i64 (left:Int)]).holds w F) (hle:left≤400) (hd:d≤40) (h:dy (bD F w) s e.kids):ck Tryz.prog 149 [.agg #[.int .i64 e.op,.int .i64 e.lt,s],.int .i64 (d:Int),.pointer (some ⟨lb,0,none⟩)] w F (fun r A o=>∃ (b:Bool) (l2:Nat),r = .bool b∧A=box lb 3 1 [.int .i64 (l2:Int)]∧l2≤400∧o=[]∧gz d e left=if b then some l2 else none):=by
 obtain ⟨ss,hl,hx,hk⟩:=h.inv
 have hr:=hx.rd
 have hm:=hr.le
 refine cu Tryz.func149 rfl (aT rfl) hA ?_
 refine .sr fun _ bl=>?_
 refine .cS (E:=24) (cs:=[.int .i64 e.op,.int .i64 e.lt,s]) rfl rfl rfl trivial rfl (fun ga=>?_)
 refine .as rfl (.nt bl ?_)
 refine .seq fun _ bg=>?_
 refine .sr fun _ bW=>?_
 refine .mv rfl (.v (.eql rfl rfl) (.mv rfl ?_))
 refine .bQ (g:=11) rfl (fun bt=>?_) (fun bt=>?_)
 ·have dC:=bt
  try simp only [bs] at dC
  refine .pass rfl rfl (bt) rfl ?_
  refine .pass rfl rfl (bt) rfl ?_
  refine .pass rfl rfl (bt) rfl ?_
  refine .pass rfl rfl (bt) rfl ?_
  refine .v (.bw rfl (bt) rfl) (.nt bW ?_)
  refine .cD rfl (rfl) ?_
  refine .sr fun _ cr=>?_
  refine .as rfl (.nt cr (.ret (.ae ?_)))
  refine .aG rfl rfl (fun w hw=>⟨_,_,_,?_,rfl,.of (hw.pk [0])⟩)
  refine ⟨false,left,rfl,rfl,hle,rfl,?_⟩
  cases d with
  | zero=>rfl
  | succ d=>rw [gz,if_pos (by omega)];rfl
 ·have dC:=bt
  try simp only [bs] at dC
  refine .val _ (.move rfl) ⟨_,rfl,gB bt⟩ rfl ?_
  refine .val _ (.nilCheck rfl) ⟨_,rfl,gB bt⟩ rfl ?_
  refine .val _ (.aa cQ rfl ax rfl) ⟨_,rfl,gB bt⟩ rfl ?_
  refine .val _ (.eql rfl rfl) ⟨_,rfl,gB bt⟩ rfl ?_
  refine .v (.cH rfl (bt) rfl) (.nt bW ?_)
  refine .aA rfl (fun bx=>?_) (fun bx=>?_)
  ·refine .sr fun _ cJ=>?_
   refine .as rfl (.nt cJ (.ret (.ae ?_)))
   refine .aG rfl rfl (fun w hw=>⟨_,_,_,?_,rfl,.of (hw.pk [0])⟩)
   refine ⟨false,left,rfl,rfl,hle,rfl,?_⟩
   cases d with
   | zero=>rfl
   | succ d=>rw [gz,if_pos (by omega)];rfl
  ·obtain ⟨d',rfl⟩:∃ d',d=d'+1:=⟨d - 1,by omega⟩
   have ihd:=ih d' rfl
   refine .skip ?_
   refine .ab (bg _ ?_)
   refine .sr fun _ cU=>?_
   refine .mv rfl (.v (.nilCheck rfl) (.v (.aa cQ rfl ax rfl) ?_))
   refine .v (.M3 (((left - 1:Nat):Int)) rfl rfl (by omega) (by omega)) ?_
   refine .v (.nilCheck rfl) ?_
   refine .ah 0 (cs':=[.int .i64 ((left - 1:Nat):Int)]) rfl tf rfl rfl rfl rfl aJ (aT rfl) rfl trivial ?_
   refine .nt cU ?_
   refine .seq fun _ c7=>?_
   refine .sr fun _ dm=>?_
   refine .v (.fieldAddr bM rfl) (.v (.aa du rfl ax rfl) (.v (.aZ aR rfl a8) (.mv rfl (.nt dm (.block ?_)))))
   refine .bE (X:=Nat × Nat) [(1,_),(2,_),(23,_),(24,_)] (fun x=>[(25,.int .i64 (x.1:Int))]) (fun x=>[box lb 3 1 [.int .i64 (x.2:Int)],box ga 24 3 [.int .i64 e.op,.int .i64 e.lt,s]]) (fun x=>x.1≤e.kids.length∧x.2≤400∧(e.kids.take x.1).foldlM (fun l k=>gz d' k l) (left - 1)=some x.2) (fun x=>e.kids.length - x.1) ((0,left - 1)) aU ?_ ?_ ?_ ?_
   ·exact ⟨Nat.zero_le _,by dsimp only;omega,by simp⟩
   ·exact aU
   ·exact fun w hw=>hw
   ·intro x aV _ dD
    refine .sr fun _ bJ=>?_
    refine .v (.lss rfl rfl) (.nt bJ ?_)
    refine .seq fun _ bP=>?_
    refine .aA rfl (fun cB=>?_) (fun cB=>?_)
    ·have sk:=(hk x.1 (by omega)).sl
     refine .skip ?_
     refine .ab (bP _ ?_)
     refine .seq fun _ ct=>?_
     refine .block ?_
     refine .sr fun _ cK=>?_
     refine .v (.iN aR rfl rfl) ?_
     refine .v (.da aM rfl a8 (by assumption) rfl (by omega)) ?_
     refine .alloc cC rfl rfl trivial rfl (fun lP=>?_)
     refine .ah 2 (us:=[.int .i64 (e.kids.getD x.1 default).op,.int .i64 (e.kids.getD x.1 default).lt,ss.getD x.1 undef]) (cs':=[.int .i64 (e.kids.getD x.1 default).op,.int .i64 (e.kids.getD x.1 default).lt,ss.getD x.1 undef]) rfl cy rfl rfl rfl rfl aJ (aT rfl) rfl trivial ?_
     refine .nt cK ?_
     refine .sr fun _ cW=>?_
     refine .v (.ak aM rfl ax rfl rfl) (.mv rfl ?_)
     refine .v (.M3 ((d':Int)) rfl rfl (by omega) (by omega)) ?_
     refine .mv rfl ?_
     refine .aY 0 rfl PT rfl (fun w Fs hw hh bI bc=>ihd w (Fs 0) lb _ _ _ (hh.at_ 0 _ rfl) aV.2.1 (by omega) ((hk x.1 (by omega)).yi bI bc 0)) trivial rfl ?_
     rintro r A o ⟨b,l2,rfl,rfl,h2,rfl,hf⟩
     refine .v (.not rfl) (.nt cW ?_)
     refine .eW rfl (fun cZ=>?_) (fun cZ=>?_)
     ·refine .sr fun _ c8=>?_
      refine .as rfl (.nt c8 (.ret (.al (.ae (.ae (.al (.ae ?_)))))))
      refine .aG rfl rfl (fun w hw=>⟨_,_,_,?_,rfl,.of (hw.pk [0])⟩)
      cases b with
      | true=>cases cZ
      | false=>
       refine ⟨false,l2,rfl,rfl,h2,rfl,?_⟩
       rw [gz,if_neg (by omega),DF aV.2.2 (by omega) hf];rfl
     ·refine .skip (.ag ?_)
      refine .ab (ct _ ?_)
      refine .region ?_
      refine .v (.add rfl rfl (by omega)) ?_
      refine .mv rfl (.nil ?_)
      refine .ab (dD _ _ ((x.1+1,l2)) ⟨by dsimp only;omega,h2,DE aV.2.2 (by omega) (by cases b with | true=>exact hf | false=>cases cZ)⟩ (by dsimp only;omega) (aU) (fun w hw=>hw.pk [0,1]))
    ·refine .exit (.ai (.ai (.ar ?_)))
     refine .ab (c7 _ ?_)
     refine .sr fun _ dw=>?_
     refine .as rfl (.nt dw (.ret ?_))
     refine .aG rfl rfl (fun w hw=>⟨_,_,_,?_,rfl,.of (hw.pk [0])⟩)
     have PF:=aV.2.2
     rw [List.take_of_length_le (by omega)] at PF
     refine ⟨true,x.2,rfl,rfl,aV.2.1,rfl,?_⟩
     rw [gz,if_neg (by omega),PF];rfl
end Go.Proofs.YtbibnpdnmmgacaaGreatDoor
