/- Part 8 of the proof: LaOk. -/
import Derived.Test.YtamgnhdbeecapaaCa4
import Derived.Test.YtamgnhdbeecapaaProg
import Derived.KernelRfl
set_option linter.unusedSimpArgs false
set_option linter.unusedVariables false
namespace Go.Ax.fE
open Go Go.Ax
theorem sY:Go.Proofs.Try.prog.follows .mixedOrders=true:=by kernel_rfl
open Go.Proofs.Try
abbrev mQ:=n7 Go.Proofs.Try.prog
theorem mW {f:Nat} {fn:Func} {af:aq} (hf:Go.Proofs.Try.prog.funcs[f]?=some fn) (hm:mF Go.Proofs.Try.prog fn af=true) (hc:∀args w,(callFunc f args).run Go.Proofs.Try.prog w=.ok (.enter f args) w):mQ f af:=yW hf hm hc
theorem Og:mQ 17 Hw:=mW func17 (by kernel_rfl) call17
theorem Oe:mQ 22 MK:=mW func22 (by kernel_rfl) call22
theorem Od:mQ 31 Nm:=mW func31 (by kernel_rfl) call31
theorem Oc:mQ 33 Nl:=mW func33 (by kernel_rfl) call33
theorem Ob:mQ 35 MJ:=mW func35 (by kernel_rfl) call35
theorem Oa:mQ 38 Nk:=mW func38 (by kernel_rfl) call38
theorem N_:mQ 39 Nj:=mW func39 (by kernel_rfl) call39
theorem N9:mQ 41 Ni:=mW func41 (by kernel_rfl) call41
theorem N8:mQ 43 Nh:=mW func43 (by kernel_rfl) call43
theorem N7:mQ 50 Ng:=mW func50 (by kernel_rfl) call50
theorem N6:mQ 52 MI:=mW func52 (by kernel_rfl) call52
theorem N5:mQ 53 Nf:=mW func53 (by kernel_rfl) call53
theorem N4:mQ 54 MH:=mW func54 (by kernel_rfl) call54
theorem N3:mQ 56 Nd:=mW func56 (by kernel_rfl) call56
theorem N2:mQ 57 Nc:=mW func57 (by kernel_rfl) call57
theorem N1:mQ 58 MG:=mW func58 (by kernel_rfl) call58
theorem N0:mQ 59 Nb:=mW func59 (by kernel_rfl) call59
theorem NZ:mQ 60 Na:=mW func60 (by kernel_rfl) call60
theorem NY:mQ 61 M_:=mW func61 (by kernel_rfl) call61
theorem NX:mQ 62 M9:=mW func62 (by kernel_rfl) call62
theorem NW:mQ 63 M8:=mW func63 (by kernel_rfl) call63
theorem NV:mQ 73 Ef:=mW func73 (by kernel_rfl) call73
theorem NU:mQ 74 M7:=mW func74 (by kernel_rfl) call74
theorem NT:mQ 75 M6:=mW func75 (by kernel_rfl) call75
theorem NS:mQ 76 MF:=mW func76 (by kernel_rfl) call76
theorem NR:mQ 77 ME:=mW func77 (by kernel_rfl) call77
theorem NQ:mQ 78 MD:=mW func78 (by kernel_rfl) call78
theorem NP:mQ 79 MC:=mW func79 (by kernel_rfl) call79
theorem NO:mQ 80 MB:=mW func80 (by kernel_rfl) call80
theorem NN:mQ 81 M5:=mW func81 (by kernel_rfl) call81
theorem NM:mQ 82 M4:=mW func82 (by kernel_rfl) call82
theorem NL:mQ 83 M3:=mW func83 (by kernel_rfl) call83
theorem NK:mQ 84 M1:=mW func84 (by kernel_rfl) call84
theorem NJ:mQ 85 M0:=mW func85 (by kernel_rfl) call85
theorem NI:mQ 86 MZ:=mW func86 (by kernel_rfl) call86
theorem NH:mQ 87 MY:=mW func87 (by kernel_rfl) call87
theorem NG:mQ 88 MX:=mW func88 (by kernel_rfl) call88
theorem NF:mQ 98 Ee:=mW func98 (by kernel_rfl) call98
theorem ND:mQ 99 MW:=mW func99 (by kernel_rfl) call99
theorem L_:mQ 100 Kr:=mW func100 (by kernel_rfl) call100
theorem L9:mQ 101 Kq:=mW func101 (by kernel_rfl) call101
theorem L8:mQ 102 Kp:=mW func102 (by kernel_rfl) call102
theorem L7:mQ 103 Hx:=mW func103 (by kernel_rfl) call103
theorem L6:mQ 104 Ko:=mW func104 (by kernel_rfl) call104
theorem L5:mQ 105 Km:=mW func105 (by kernel_rfl) call105
theorem L4:mQ 106 Kl:=mW func106 (by kernel_rfl) call106
theorem L3:mQ 107 Kk:=mW func107 (by kernel_rfl) call107
theorem L2:mQ 108 Kj:=mW func108 (by kernel_rfl) call108
theorem L1:mQ 109 Ki:=mW func109 (by kernel_rfl) call109
theorem L0:mQ 110 Kh:=mW func110 (by kernel_rfl) call110
theorem LZ:mQ 111 Kg:=mW func111 (by kernel_rfl) call111
theorem LY:mQ 112 Kf:=mW func112 (by kernel_rfl) call112
theorem LX:mQ 113 Ke:=mW func113 (by kernel_rfl) call113
theorem LW:mQ 114 Kd:=mW func114 (by kernel_rfl) call114
theorem LV:mQ 115 Kb:=mW func115 (by kernel_rfl) call115
theorem LU:mQ 116 Ka:=mW func116 (by kernel_rfl) call116
theorem LS:mQ 117 J_:=mW func117 (by kernel_rfl) call117
theorem LR:mQ 118 J9:=mW func118 (by kernel_rfl) call118
theorem LQ:mQ 119 J8:=mW func119 (by kernel_rfl) call119
theorem LP:mQ 120 J7:=mW func120 (by kernel_rfl) call120
theorem LN:mQ 121 J6:=mW func121 (by kernel_rfl) call121
theorem LM:mQ 122 J5:=mW func122 (by kernel_rfl) call122
theorem LK:mQ 130 ta:=mW func130 (by kernel_rfl) call130
theorem LJ:mQ 131 J4:=mW func131 (by kernel_rfl) call131
theorem LI:mQ 132 J3:=mW func132 (by kernel_rfl) call132
theorem LH:mQ 133 J2:=mW func133 (by kernel_rfl) call133
theorem LG:mQ 134 J1:=mW func134 (by kernel_rfl) call134
theorem LF:mQ 135 J0:=mW func135 (by kernel_rfl) call135
theorem LD:mQ 136 JZ:=mW func136 (by kernel_rfl) call136
theorem LC:mQ 137 JY:=mW func137 (by kernel_rfl) call137
theorem LB:mQ 138 JX:=mW func138 (by kernel_rfl) call138
theorem LA:mQ 139 JW:=mW func139 (by kernel_rfl) call139
theorem Lz:mQ 140 JV:=mW func140 (by kernel_rfl) call140
theorem Ly:mQ 141 JU:=mW func141 (by kernel_rfl) call141
theorem Lx:mQ 142 JS:=mW func142 (by kernel_rfl) call142
theorem Lw:mQ 143 JR:=mW func143 (by kernel_rfl) call143
theorem Lv:mQ 144 JQ:=mW func144 (by kernel_rfl) call144
theorem Lu:mQ 145 JP:=mW func145 (by kernel_rfl) call145
theorem Lt:mQ 146 JO:=mW func146 (by kernel_rfl) call146
theorem Ls:mQ 147 JN:=mW func147 (by kernel_rfl) call147
theorem Lr:mQ 148 JM:=mW func148 (by kernel_rfl) call148
theorem Lq:mQ 149 JK:=mW func149 (by kernel_rfl) call149
theorem Lp:mQ 150 JJ:=mW func150 (by kernel_rfl) call150
theorem Ln:mQ 151 JI:=mW func151 (by kernel_rfl) call151
theorem Lm:mQ 152 JH:=mW func152 (by kernel_rfl) call152
theorem Ll:mQ 153 JG:=mW func153 (by kernel_rfl) call153
theorem Lk:mQ 154 JF:=mW func154 (by kernel_rfl) call154
theorem Lj:mQ 155 JE:=mW func155 (by kernel_rfl) call155
theorem Li:mQ 161 JD:=mW func161 (by kernel_rfl) call161
theorem Lh:mQ 162 JC:=mW func162 (by kernel_rfl) call162
theorem Lg:mQ 163 JB:=mW func163 (by kernel_rfl) call163
theorem Lf:mQ 164 JA:=mW func164 (by kernel_rfl) call164
theorem Le:mQ 165 Jz:=mW func165 (by kernel_rfl) call165
theorem Ld:mQ 166 Jy:=mW func166 (by kernel_rfl) call166
theorem Lc:mQ 167 Jx:=mW func167 (by kernel_rfl) call167
theorem Lb:mQ 169 Jw:=mW func169 (by kernel_rfl) call169
theorem allM:FB (n7 Go.Proofs.Try.prog) prog (fun k=>k):=⟨trivial,⟨trivial,⟨trivial,⟨trivial,⟨trivial,⟨Od,⟨NW,trivial,trivial⟩,trivial⟩,⟨trivial,⟨NP,⟨Lw,trivial,trivial⟩,trivial⟩,⟨LZ,trivial,trivial⟩⟩⟩,⟨trivial,⟨N_,⟨trivial,⟨LF,trivial,trivial⟩,trivial⟩,⟨L7,⟨Lc,trivial,trivial⟩,trivial⟩⟩,⟨trivial,⟨NH,⟨Ln,trivial,trivial⟩,trivial⟩,⟨LQ,trivial,trivial⟩⟩⟩⟩,⟨trivial,⟨trivial,⟨Ob,⟨trivial,⟨LJ,trivial,trivial⟩,trivial⟩,⟨ND,⟨Lg,trivial,trivial⟩,trivial⟩⟩,⟨trivial,⟨NL,⟨Ls,trivial,trivial⟩,trivial⟩,⟨LV,trivial,trivial⟩⟩⟩,⟨trivial,⟨N8,⟨NT,⟨LA,trivial,trivial⟩,trivial⟩,⟨L3,trivial,trivial⟩⟩,⟨N0,⟨trivial,⟨Lj,trivial,trivial⟩,trivial⟩,trivial⟩⟩⟩⟩,⟨trivial,⟨trivial,⟨Og,⟨Oc,trivial,⟨trivial,⟨Li,trivial,trivial⟩,trivial⟩⟩,⟨trivial,⟨NN,⟨Lu,trivial,trivial⟩,trivial⟩,⟨LX,trivial,trivial⟩⟩⟩,⟨trivial,⟨N9,⟨NV,⟨LC,trivial,trivial⟩,trivial⟩,⟨L5,⟨Lb,trivial,trivial⟩,trivial⟩⟩,⟨N2,⟨trivial,⟨Ll,trivial,trivial⟩,trivial⟩,⟨LN,trivial,trivial⟩⟩⟩⟩,⟨trivial,⟨trivial,⟨trivial,⟨trivial,⟨LH,trivial,trivial⟩,trivial⟩,⟨L9,⟨Le,trivial,trivial⟩,trivial⟩⟩,⟨N5,⟨NJ,⟨Lq,trivial,trivial⟩,trivial⟩,⟨LS,trivial,trivial⟩⟩⟩,⟨trivial,⟨trivial,⟨NR,⟨Ly,trivial,trivial⟩,trivial⟩,⟨L1,trivial,trivial⟩⟩,⟨NY,trivial,trivial⟩⟩⟩⟩⟩,⟨trivial,⟨trivial,⟨trivial,⟨trivial,trivial,⟨trivial,⟨NO,⟨Lv,trivial,trivial⟩,trivial⟩,⟨LY,trivial,trivial⟩⟩⟩,⟨trivial,⟨trivial,⟨trivial,⟨LD,trivial,trivial⟩,trivial⟩,⟨L6,trivial,trivial⟩⟩,⟨N3,⟨NG,⟨Lm,trivial,trivial⟩,trivial⟩,⟨LP,trivial,trivial⟩⟩⟩⟩,⟨trivial,⟨trivial,⟨trivial,⟨trivial,⟨LI,trivial,trivial⟩,trivial⟩,⟨L_,⟨Lf,trivial,trivial⟩,trivial⟩⟩,⟨N6,⟨NK,⟨Lr,trivial,trivial⟩,trivial⟩,⟨LU,trivial,trivial⟩⟩⟩,⟨trivial,⟨trivial,⟨NS,⟨Lz,trivial,trivial⟩,trivial⟩,⟨L2,trivial,trivial⟩⟩,⟨NZ,trivial,trivial⟩⟩⟩⟩,⟨trivial,⟨trivial,⟨trivial,⟨trivial,⟨trivial,⟨LK,trivial,trivial⟩,trivial⟩,⟨NF,⟨Lh,trivial,trivial⟩,trivial⟩⟩,⟨N7,⟨NM,⟨Lt,trivial,trivial⟩,trivial⟩,⟨LW,trivial,trivial⟩⟩⟩,⟨trivial,⟨trivial,⟨NU,⟨LB,trivial,trivial⟩,trivial⟩,⟨L4,trivial,trivial⟩⟩,⟨N1,⟨trivial,⟨Lk,trivial,trivial⟩,trivial⟩,⟨LM,trivial,trivial⟩⟩⟩⟩,⟨trivial,⟨Oe,⟨Oa,⟨trivial,⟨LG,trivial,trivial⟩,trivial⟩,⟨L8,⟨Ld,trivial,trivial⟩,trivial⟩⟩,⟨N4,⟨NI,⟨Lp,trivial,trivial⟩,trivial⟩,⟨LR,trivial,trivial⟩⟩⟩,⟨trivial,⟨trivial,⟨NQ,⟨Lx,trivial,trivial⟩,trivial⟩,⟨L0,trivial,trivial⟩⟩,⟨NX,trivial,trivial⟩⟩⟩⟩⟩⟩
theorem Mq (k:Nat):j8 Go.Proofs.Try.prog (interp prog k).fn:=(uj sY (fun f af h=>sR prog (fun k=>k) allM f af h) k).2.2
end Go.Ax.fE
