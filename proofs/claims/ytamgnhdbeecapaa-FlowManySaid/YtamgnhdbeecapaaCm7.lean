/- Part 7 of the proof: LmOk. -/
import Derived.Test.YtamgnhdbeecapaaCm4
import Derived.Test.YtamgnhdbeecapaaProg
import Derived.KernelRfl
set_option linter.unusedSimpArgs false
set_option linter.unusedVariables false
namespace Go.Ax.ek
open Go Go.Ax
theorem xh:Go.Proofs.Try.prog.follows .mixedOrders=true:=by kernel_rfl
open Go.Proofs.Try
abbrev mQ:=uy Go.Proofs.Try.prog
theorem mW {f:Nat} {fn:Func} {af:ak} (hf:Go.Proofs.Try.prog.funcs[f]?=some fn) (hm:mF Go.Proofs.Try.prog fn af=true) (hc:∀args w,(callFunc f args).run Go.Proofs.Try.prog w=.ok (.enter f args) w):mQ f af:=DT hf hm hc
theorem Ud:mQ 41 SY:=mW func41 (by kernel_rfl) call41
theorem Uc:mQ 43 SX:=mW func43 (by kernel_rfl) call43
theorem Ub:mQ 46 Ts:=mW func46 (by kernel_rfl) call46
theorem Ua:mQ 50 Tr:=mW func50 (by kernel_rfl) call50
theorem T_:mQ 53 Tq:=mW func53 (by kernel_rfl) call53
theorem T9:mQ 56 SW:=mW func56 (by kernel_rfl) call56
theorem T8:mQ 60 SV:=mW func60 (by kernel_rfl) call60
theorem T7:mQ 61 SU:=mW func61 (by kernel_rfl) call61
theorem T6:mQ 62 SS:=mW func62 (by kernel_rfl) call62
theorem T5:mQ 63 SR:=mW func63 (by kernel_rfl) call63
theorem TZ:mQ 74 Tp:=mW func74 (by kernel_rfl) call74
theorem TY:mQ 75 Tn:=mW func75 (by kernel_rfl) call75
theorem TX:mQ 81 SQ:=mW func81 (by kernel_rfl) call81
theorem TW:mQ 82 SP:=mW func82 (by kernel_rfl) call82
theorem TU:mQ 83 SO:=mW func83 (by kernel_rfl) call83
theorem TT:mQ 84 SN:=mW func84 (by kernel_rfl) call84
theorem TS:mQ 85 SM:=mW func85 (by kernel_rfl) call85
theorem TR:mQ 86 SL:=mW func86 (by kernel_rfl) call86
theorem TQ:mQ 87 SK:=mW func87 (by kernel_rfl) call87
theorem TP:mQ 88 SJ:=mW func88 (by kernel_rfl) call88
theorem TO:mQ 99 Tm:=mW func99 (by kernel_rfl) call99
theorem Sb:mQ 100 PW:=mW func100 (by kernel_rfl) call100
theorem Sa:mQ 101 PV:=mW func101 (by kernel_rfl) call101
theorem R_:mQ 102 PU:=mW func102 (by kernel_rfl) call102
theorem R9:mQ 104 MV:=mW func104 (by kernel_rfl) call104
theorem R8:mQ 105 MU:=mW func105 (by kernel_rfl) call105
theorem R7:mQ 106 MT:=mW func106 (by kernel_rfl) call106
theorem R6:mQ 107 MS:=mW func107 (by kernel_rfl) call107
theorem R5:mQ 108 MR:=mW func108 (by kernel_rfl) call108
theorem R0:mQ 109 MQ:=mW func109 (by kernel_rfl) call109
theorem RZ:mQ 110 MP:=mW func110 (by kernel_rfl) call110
theorem RY:mQ 111 MO:=mW func111 (by kernel_rfl) call111
theorem RX:mQ 112 MN:=mW func112 (by kernel_rfl) call112
theorem RW:mQ 113 PT:=mW func113 (by kernel_rfl) call113
theorem RV:mQ 114 PS:=mW func114 (by kernel_rfl) call114
theorem RU:mQ 115 PR:=mW func115 (by kernel_rfl) call115
theorem RT:mQ 116 PO:=mW func116 (by kernel_rfl) call116
theorem RS:mQ 117 PN:=mW func117 (by kernel_rfl) call117
theorem RR:mQ 118 PM:=mW func118 (by kernel_rfl) call118
theorem RQ:mQ 119 PL:=mW func119 (by kernel_rfl) call119
theorem RP:mQ 120 PJ:=mW func120 (by kernel_rfl) call120
theorem RO:mQ 121 PI:=mW func121 (by kernel_rfl) call121
theorem RN:mQ 122 MM:=mW func122 (by kernel_rfl) call122
theorem RM:mQ 136 PG:=mW func136 (by kernel_rfl) call136
theorem RL:mQ 137 PF:=mW func137 (by kernel_rfl) call137
theorem RJ:mQ 138 PE:=mW func138 (by kernel_rfl) call138
theorem RI:mQ 139 PD:=mW func139 (by kernel_rfl) call139
theorem RH:mQ 140 PC:=mW func140 (by kernel_rfl) call140
theorem RG:mQ 141 ML:=mW func141 (by kernel_rfl) call141
theorem RF:mQ 142 MK:=mW func142 (by kernel_rfl) call142
theorem RE:mQ 143 MJ:=mW func143 (by kernel_rfl) call143
theorem RD:mQ 144 MI:=mW func144 (by kernel_rfl) call144
theorem RC:mQ 145 MH:=mW func145 (by kernel_rfl) call145
theorem RB:mQ 146 MG:=mW func146 (by kernel_rfl) call146
theorem RA:mQ 147 MF:=mW func147 (by kernel_rfl) call147
theorem Rz:mQ 148 ME:=mW func148 (by kernel_rfl) call148
theorem Ry:mQ 149 MD:=mW func149 (by kernel_rfl) call149
theorem Rx:mQ 150 PB:=mW func150 (by kernel_rfl) call150
theorem Rw:mQ 151 PA:=mW func151 (by kernel_rfl) call151
theorem Rv:mQ 152 Pz:=mW func152 (by kernel_rfl) call152
theorem Ru:mQ 153 Py:=mW func153 (by kernel_rfl) call153
theorem Rs:mQ 154 Px:=mW func154 (by kernel_rfl) call154
theorem Rr:mQ 155 Pw:=mW func155 (by kernel_rfl) call155
theorem Rq:mQ 163 Pv:=mW func163 (by kernel_rfl) call163
theorem Rp:mQ 164 Pu:=mW func164 (by kernel_rfl) call164
theorem Ro:mQ 165 Pt:=mW func165 (by kernel_rfl) call165
theorem Rn:mQ 166 MC:=mW func166 (by kernel_rfl) call166
theorem Rm:mQ 167 Pq:=mW func167 (by kernel_rfl) call167
theorem Rl:mQ 169 Pp:=mW func169 (by kernel_rfl) call169
theorem allM:KH (uy Go.Proofs.Try.prog) prog (fun k=>k):=⟨trivial,⟨trivial,⟨trivial,⟨trivial,⟨trivial,⟨trivial,⟨T5,trivial,trivial⟩,trivial⟩,⟨trivial,⟨trivial,⟨RE,trivial,trivial⟩,trivial⟩,⟨RY,trivial,trivial⟩⟩⟩,⟨trivial,⟨trivial,trivial,⟨trivial,⟨Rm,trivial,trivial⟩,trivial⟩⟩,⟨trivial,⟨TQ,⟨Rw,trivial,trivial⟩,trivial⟩,⟨RQ,trivial,trivial⟩⟩⟩⟩,⟨trivial,⟨trivial,⟨trivial,trivial,⟨TO,⟨Rq,trivial,trivial⟩,trivial⟩⟩,⟨trivial,⟨TU,⟨RA,trivial,trivial⟩,trivial⟩,⟨RU,trivial,trivial⟩⟩⟩,⟨trivial,⟨Uc,⟨TY,⟨RI,trivial,trivial⟩,trivial⟩,⟨R6,trivial,trivial⟩⟩,⟨trivial,⟨trivial,⟨Rr,trivial,trivial⟩,trivial⟩,trivial⟩⟩⟩⟩,⟨trivial,⟨trivial,⟨trivial,trivial,⟨trivial,⟨TX,⟨RC,trivial,trivial⟩,trivial⟩,⟨RW,trivial,trivial⟩⟩⟩,⟨trivial,⟨Ud,⟨trivial,⟨RL,trivial,trivial⟩,trivial⟩,⟨R8,⟨Rl,trivial,trivial⟩,trivial⟩⟩,⟨trivial,⟨trivial,⟨Ru,trivial,trivial⟩,trivial⟩,⟨RO,trivial,trivial⟩⟩⟩⟩,⟨trivial,⟨trivial,⟨trivial,trivial,⟨Sa,⟨Ro,trivial,trivial⟩,trivial⟩⟩,⟨T_,⟨TS,⟨Ry,trivial,trivial⟩,trivial⟩,⟨RS,trivial,trivial⟩⟩⟩,⟨trivial,⟨trivial,⟨trivial,⟨RG,trivial,trivial⟩,trivial⟩,⟨R0,trivial,trivial⟩⟩,⟨T7,trivial,trivial⟩⟩⟩⟩⟩,⟨trivial,⟨trivial,⟨trivial,⟨trivial,trivial,⟨trivial,⟨trivial,⟨RD,trivial,trivial⟩,trivial⟩,⟨RX,trivial,trivial⟩⟩⟩,⟨trivial,⟨trivial,⟨trivial,⟨RM,trivial,trivial⟩,trivial⟩,⟨R9,trivial,trivial⟩⟩,⟨T9,⟨TP,⟨Rv,trivial,trivial⟩,trivial⟩,⟨RP,trivial,trivial⟩⟩⟩⟩,⟨trivial,⟨trivial,⟨trivial,trivial,⟨Sb,⟨Rp,trivial,trivial⟩,trivial⟩⟩,⟨trivial,⟨TT,⟨Rz,trivial,trivial⟩,trivial⟩,⟨RT,trivial,trivial⟩⟩⟩,⟨trivial,⟨trivial,⟨trivial,⟨RH,trivial,trivial⟩,trivial⟩,⟨R5,trivial,trivial⟩⟩,⟨T8,trivial,trivial⟩⟩⟩⟩,⟨trivial,⟨trivial,⟨trivial,trivial,⟨Ua,⟨TW,⟨RB,trivial,trivial⟩,trivial⟩,⟨RV,trivial,trivial⟩⟩⟩,⟨trivial,⟨trivial,⟨TZ,⟨RJ,trivial,trivial⟩,trivial⟩,⟨R7,trivial,trivial⟩⟩,⟨trivial,⟨trivial,⟨Rs,trivial,trivial⟩,trivial⟩,⟨RN,trivial,trivial⟩⟩⟩⟩,⟨trivial,⟨trivial,⟨trivial,trivial,⟨R_,⟨Rn,trivial,trivial⟩,trivial⟩⟩,⟨trivial,⟨TR,⟨Rx,trivial,trivial⟩,trivial⟩,⟨RR,trivial,trivial⟩⟩⟩,⟨trivial,⟨Ub,⟨trivial,⟨RF,trivial,trivial⟩,trivial⟩,⟨RZ,trivial,trivial⟩⟩,⟨T6,trivial,trivial⟩⟩⟩⟩⟩⟩
theorem SC (k:Nat):mz Go.Proofs.Try.prog (interp prog k).fn:=(vm xh (fun f af h=>uv prog (fun k=>k) allM f af h) k).2.2
theorem codeOk (k:Nat):pX Go.Proofs.Try.prog (interp prog k).code:=(vm xh (fun f af h=>uv prog (fun k=>k) allM f af h) k).1
end Go.Ax.ek
