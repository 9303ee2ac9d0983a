/- Part 8 of the proof: LyOk. -/
import Derived.Test.YtamgnhdbeecapaaCy4
import Derived.Test.YtamgnhdbeecapaaProg
import Derived.KernelRfl
set_option linter.unusedSimpArgs false
set_option linter.unusedVariables false
namespace Go.Ax.eB
open Go Go.Ax
theorem rK:Go.Proofs.Try.prog.follows .mixedOrders=true:=by kernel_rfl
open Go.Proofs.Try
abbrev mQ:=mj Go.Proofs.Try.prog
theorem mW {f:Nat} {fn:Func} {af:aq} (hf:Go.Proofs.Try.prog.funcs[f]?=some fn) (hm:mF Go.Proofs.Try.prog fn af=true) (hc:∀args w,(callFunc f args).run Go.Proofs.Try.prog w=.ok (.enter f args) w):mQ f af:=wg hf hm hc
theorem KB:mQ 18 Ey:=mW func18 (by kernel_rfl) call18
theorem KA:mQ 22 I7:=mW func22 (by kernel_rfl) call22
theorem Kz:mQ 31 JP:=mW func31 (by kernel_rfl) call31
theorem Ky:mQ 33 JO:=mW func33 (by kernel_rfl) call33
theorem Kx:mQ 35 JN:=mW func35 (by kernel_rfl) call35
theorem Kw:mQ 38 JM:=mW func38 (by kernel_rfl) call38
theorem Kv:mQ 39 JK:=mW func39 (by kernel_rfl) call39
theorem Ku:mQ 41 JJ:=mW func41 (by kernel_rfl) call41
theorem Kt:mQ 43 JI:=mW func43 (by kernel_rfl) call43
theorem Ks:mQ 50 JH:=mW func50 (by kernel_rfl) call50
theorem Kr:mQ 52 I6:=mW func52 (by kernel_rfl) call52
theorem Kq:mQ 53 JG:=mW func53 (by kernel_rfl) call53
theorem Kp:mQ 54 JF:=mW func54 (by kernel_rfl) call54
theorem Ko:mQ 56 JE:=mW func56 (by kernel_rfl) call56
theorem Km:mQ 57 JD:=mW func57 (by kernel_rfl) call57
theorem Kl:mQ 58 JC:=mW func58 (by kernel_rfl) call58
theorem Kk:mQ 59 JB:=mW func59 (by kernel_rfl) call59
theorem Kj:mQ 60 JA:=mW func60 (by kernel_rfl) call60
theorem Ki:mQ 61 Jz:=mW func61 (by kernel_rfl) call61
theorem Kh:mQ 62 Jy:=mW func62 (by kernel_rfl) call62
theorem Kg:mQ 63 Jx:=mW func63 (by kernel_rfl) call63
theorem Kf:mQ 73 Jw:=mW func73 (by kernel_rfl) call73
theorem Ke:mQ 74 Jv:=mW func74 (by kernel_rfl) call74
theorem Kd:mQ 75 Ju:=mW func75 (by kernel_rfl) call75
theorem Kb:mQ 76 Jt:=mW func76 (by kernel_rfl) call76
theorem Ka:mQ 77 Js:=mW func77 (by kernel_rfl) call77
theorem J_:mQ 78 Jr:=mW func78 (by kernel_rfl) call78
theorem J9:mQ 79 Jq:=mW func79 (by kernel_rfl) call79
theorem J8:mQ 80 Jp:=mW func80 (by kernel_rfl) call80
theorem J7:mQ 81 Jo:=mW func81 (by kernel_rfl) call81
theorem J6:mQ 82 Jn:=mW func82 (by kernel_rfl) call82
theorem J5:mQ 83 Jm:=mW func83 (by kernel_rfl) call83
theorem J4:mQ 84 Jl:=mW func84 (by kernel_rfl) call84
theorem J3:mQ 85 Jk:=mW func85 (by kernel_rfl) call85
theorem J2:mQ 86 Jj:=mW func86 (by kernel_rfl) call86
theorem J1:mQ 87 Ji:=mW func87 (by kernel_rfl) call87
theorem J0:mQ 88 Jh:=mW func88 (by kernel_rfl) call88
theorem JZ:mQ 98 Jg:=mW func98 (by kernel_rfl) call98
theorem JY:mQ 99 Jf:=mW func99 (by kernel_rfl) call99
theorem IC:mQ 100 GX:=mW func100 (by kernel_rfl) call100
theorem IB:mQ 101 GW:=mW func101 (by kernel_rfl) call101
theorem IA:mQ 102 GV:=mW func102 (by kernel_rfl) call102
theorem Iz:mQ 103 GU:=mW func103 (by kernel_rfl) call103
theorem Iy:mQ 104 GS:=mW func104 (by kernel_rfl) call104
theorem Ix:mQ 105 GR:=mW func105 (by kernel_rfl) call105
theorem Iw:mQ 106 GQ:=mW func106 (by kernel_rfl) call106
theorem Iv:mQ 107 GP:=mW func107 (by kernel_rfl) call107
theorem Iu:mQ 108 GO:=mW func108 (by kernel_rfl) call108
theorem It:mQ 109 GN:=mW func109 (by kernel_rfl) call109
theorem Ir:mQ 110 GM:=mW func110 (by kernel_rfl) call110
theorem Iq:mQ 111 GL:=mW func111 (by kernel_rfl) call111
theorem Ip:mQ 112 GK:=mW func112 (by kernel_rfl) call112
theorem Io:mQ 113 GJ:=mW func113 (by kernel_rfl) call113
theorem Im:mQ 114 GI:=mW func114 (by kernel_rfl) call114
theorem Il:mQ 115 GH:=mW func115 (by kernel_rfl) call115
theorem Ik:mQ 116 GG:=mW func116 (by kernel_rfl) call116
theorem Ij:mQ 117 GF:=mW func117 (by kernel_rfl) call117
theorem Ii:mQ 118 GD:=mW func118 (by kernel_rfl) call118
theorem Ih:mQ 119 GC:=mW func119 (by kernel_rfl) call119
theorem Ig:mQ 120 GB:=mW func120 (by kernel_rfl) call120
theorem Ie:mQ 121 GA:=mW func121 (by kernel_rfl) call121
theorem Ic:mQ 122 Gz:=mW func122 (by kernel_rfl) call122
theorem Ib:mQ 130 Gy:=mW func130 (by kernel_rfl) call130
theorem Ia:mQ 131 Gx:=mW func131 (by kernel_rfl) call131
theorem H_:mQ 132 Gw:=mW func132 (by kernel_rfl) call132
theorem H9:mQ 133 Gv:=mW func133 (by kernel_rfl) call133
theorem H8:mQ 134 Gu:=mW func134 (by kernel_rfl) call134
theorem H7:mQ 135 Gt:=mW func135 (by kernel_rfl) call135
theorem H6:mQ 136 Gs:=mW func136 (by kernel_rfl) call136
theorem HZ:mQ 137 Gr:=mW func137 (by kernel_rfl) call137
theorem HY:mQ 138 Gq:=mW func138 (by kernel_rfl) call138
theorem HX:mQ 139 Gp:=mW func139 (by kernel_rfl) call139
theorem HW:mQ 140 Gn:=mW func140 (by kernel_rfl) call140
theorem HV:mQ 141 Gm:=mW func141 (by kernel_rfl) call141
theorem HU:mQ 142 Gl:=mW func142 (by kernel_rfl) call142
theorem HT:mQ 143 Gk:=mW func143 (by kernel_rfl) call143
theorem HS:mQ 144 Gj:=mW func144 (by kernel_rfl) call144
theorem HR:mQ 145 Gi:=mW func145 (by kernel_rfl) call145
theorem HQ:mQ 146 Gh:=mW func146 (by kernel_rfl) call146
theorem HP:mQ 147 Gg:=mW func147 (by kernel_rfl) call147
theorem HO:mQ 148 Gf:=mW func148 (by kernel_rfl) call148
theorem HN:mQ 149 Ge:=mW func149 (by kernel_rfl) call149
theorem HM:mQ 150 Gd:=mW func150 (by kernel_rfl) call150
theorem HL:mQ 151 Gc:=mW func151 (by kernel_rfl) call151
theorem HK:mQ 152 Gb:=mW func152 (by kernel_rfl) call152
theorem HJ:mQ 153 Ga:=mW func153 (by kernel_rfl) call153
theorem HI:mQ 154 F_:=mW func154 (by kernel_rfl) call154
theorem HH:mQ 155 F9:=mW func155 (by kernel_rfl) call155
theorem HG:mQ 161 F8:=mW func161 (by kernel_rfl) call161
theorem HF:mQ 162 F7:=mW func162 (by kernel_rfl) call162
theorem HE:mQ 163 F6:=mW func163 (by kernel_rfl) call163
theorem HD:mQ 164 F5:=mW func164 (by kernel_rfl) call164
theorem HC:mQ 165 F4:=mW func165 (by kernel_rfl) call165
theorem HB:mQ 166 F3:=mW func166 (by kernel_rfl) call166
theorem HA:mQ 167 F2:=mW func167 (by kernel_rfl) call167
theorem Hz:mQ 169 F1:=mW func169 (by kernel_rfl) call169
theorem allM:C2 (mj Go.Proofs.Try.prog) prog (fun k=>k):=⟨trivial,⟨trivial,⟨trivial,⟨trivial,⟨trivial,⟨Kz,⟨Kg,trivial,trivial⟩,trivial⟩,⟨trivial,⟨J9,⟨HT,trivial,trivial⟩,trivial⟩,⟨Iq,trivial,trivial⟩⟩⟩,⟨trivial,⟨Kv,⟨trivial,⟨H7,trivial,trivial⟩,trivial⟩,⟨Iz,⟨HA,trivial,trivial⟩,trivial⟩⟩,⟨trivial,⟨J1,⟨HL,trivial,trivial⟩,trivial⟩,⟨Ih,trivial,trivial⟩⟩⟩⟩,⟨trivial,⟨trivial,⟨Kx,⟨trivial,⟨Ia,trivial,trivial⟩,trivial⟩,⟨JY,⟨HE,trivial,trivial⟩,trivial⟩⟩,⟨trivial,⟨J5,⟨HP,trivial,trivial⟩,trivial⟩,⟨Il,trivial,trivial⟩⟩⟩,⟨trivial,⟨Kt,⟨Kd,⟨HX,trivial,trivial⟩,trivial⟩,⟨Iv,trivial,trivial⟩⟩,⟨Kk,⟨trivial,⟨HH,trivial,trivial⟩,trivial⟩,trivial⟩⟩⟩⟩,⟨trivial,⟨trivial,⟨trivial,⟨Ky,trivial,⟨trivial,⟨HG,trivial,trivial⟩,trivial⟩⟩,⟨trivial,⟨J7,⟨HR,trivial,trivial⟩,trivial⟩,⟨Io,trivial,trivial⟩⟩⟩,⟨trivial,⟨Ku,⟨Kf,⟨HZ,trivial,trivial⟩,trivial⟩,⟨Ix,⟨Hz,trivial,trivial⟩,trivial⟩⟩,⟨Km,⟨trivial,⟨HJ,trivial,trivial⟩,trivial⟩,⟨Ie,trivial,trivial⟩⟩⟩⟩,⟨trivial,⟨trivial,⟨trivial,⟨trivial,⟨H9,trivial,trivial⟩,trivial⟩,⟨IB,⟨HC,trivial,trivial⟩,trivial⟩⟩,⟨Kq,⟨J3,⟨HN,trivial,trivial⟩,trivial⟩,⟨Ij,trivial,trivial⟩⟩⟩,⟨trivial,⟨trivial,⟨Ka,⟨HV,trivial,trivial⟩,trivial⟩,⟨It,trivial,trivial⟩⟩,⟨Ki,trivial,trivial⟩⟩⟩⟩⟩,⟨trivial,⟨trivial,⟨trivial,⟨trivial,trivial,⟨trivial,⟨J8,⟨HS,trivial,trivial⟩,trivial⟩,⟨Ip,trivial,trivial⟩⟩⟩,⟨trivial,⟨trivial,⟨trivial,⟨H6,trivial,trivial⟩,trivial⟩,⟨Iy,trivial,trivial⟩⟩,⟨Ko,⟨J0,⟨HK,trivial,trivial⟩,trivial⟩,⟨Ig,trivial,trivial⟩⟩⟩⟩,⟨trivial,⟨trivial,⟨trivial,⟨trivial,⟨H_,trivial,trivial⟩,trivial⟩,⟨IC,⟨HD,trivial,trivial⟩,trivial⟩⟩,⟨Kr,⟨J4,⟨HO,trivial,trivial⟩,trivial⟩,⟨Ik,trivial,trivial⟩⟩⟩,⟨trivial,⟨trivial,⟨Kb,⟨HW,trivial,trivial⟩,trivial⟩,⟨Iu,trivial,trivial⟩⟩,⟨Kj,trivial,trivial⟩⟩⟩⟩,⟨trivial,⟨trivial,⟨KB,⟨trivial,⟨trivial,⟨Ib,trivial,trivial⟩,trivial⟩,⟨JZ,⟨HF,trivial,trivial⟩,trivial⟩⟩,⟨Ks,⟨J6,⟨HQ,trivial,trivial⟩,trivial⟩,⟨Im,trivial,trivial⟩⟩⟩,⟨trivial,⟨trivial,⟨Ke,⟨HY,trivial,trivial⟩,trivial⟩,⟨Iw,trivial,trivial⟩⟩,⟨Kl,⟨trivial,⟨HI,trivial,trivial⟩,trivial⟩,⟨Ic,trivial,trivial⟩⟩⟩⟩,⟨trivial,⟨KA,⟨Kw,⟨trivial,⟨H8,trivial,trivial⟩,trivial⟩,⟨IA,⟨HB,trivial,trivial⟩,trivial⟩⟩,⟨Kp,⟨J2,⟨HM,trivial,trivial⟩,trivial⟩,⟨Ii,trivial,trivial⟩⟩⟩,⟨trivial,⟨trivial,⟨J_,⟨HU,trivial,trivial⟩,trivial⟩,⟨Ir,trivial,trivial⟩⟩,⟨Kh,trivial,trivial⟩⟩⟩⟩⟩⟩
theorem IX (k:Nat):jc Go.Proofs.Try.prog (interp prog k).fn:=(rF rK (fun f af h=>pW prog (fun k=>k) allM f af h) k).2.2
end Go.Ax.eB
