/- Part 8 of the proof: LqOk. -/
import Derived.Test.YtamgnhdbeecapaaCq4
import Derived.Test.YtamgnhdbeecapaaProg
import Derived.KernelRfl
set_option linter.unusedSimpArgs false
set_option linter.unusedVariables false
namespace Go.Ax.dR
open Go Go.Ax
theorem tf:Go.Proofs.Try.prog.follows .mixedOrders=true:=by kernel_rfl
open Go.Proofs.Try
abbrev mQ:=oa Go.Proofs.Try.prog
theorem mW {f:Nat} {fn:Func} {af:aq} (hf:Go.Proofs.Try.prog.funcs[f]?=some fn) (hm:mF Go.Proofs.Try.prog fn af=true) (hc:∀args w,(callFunc f args).run Go.Proofs.Try.prog w=.ok (.enter f args) w):mQ f af:=y_ hf hm hc
theorem Po:mQ 16 Il:=mW func16 (by kernel_rfl) call16
theorem Pn:mQ 22 Nw:=mW func22 (by kernel_rfl) call22
theorem Pm:mQ 31 Oi:=mW func31 (by kernel_rfl) call31
theorem Pk:mQ 33 Oh:=mW func33 (by kernel_rfl) call33
theorem LY:mQ 35 Nv:=mW func35 (by kernel_rfl) call35
theorem Pj:mQ 38 Og:=mW func38 (by kernel_rfl) call38
theorem Ph:mQ 39 Oe:=mW func39 (by kernel_rfl) call39
theorem Pf:mQ 41 Od:=mW func41 (by kernel_rfl) call41
theorem Pe:mQ 43 Oc:=mW func43 (by kernel_rfl) call43
theorem Pd:mQ 50 Ob:=mW func50 (by kernel_rfl) call50
theorem Pc:mQ 52 Nu:=mW func52 (by kernel_rfl) call52
theorem Pb:mQ 53 Oa:=mW func53 (by kernel_rfl) call53
theorem Pa:mQ 54 Nt:=mW func54 (by kernel_rfl) call54
theorem O_:mQ 56 N_:=mW func56 (by kernel_rfl) call56
theorem O9:mQ 57 N9:=mW func57 (by kernel_rfl) call57
theorem O8:mQ 58 Ns:=mW func58 (by kernel_rfl) call58
theorem O7:mQ 59 N8:=mW func59 (by kernel_rfl) call59
theorem O6:mQ 60 N7:=mW func60 (by kernel_rfl) call60
theorem O5:mQ 61 N6:=mW func61 (by kernel_rfl) call61
theorem O4:mQ 62 N5:=mW func62 (by kernel_rfl) call62
theorem O3:mQ 63 N4:=mW func63 (by kernel_rfl) call63
theorem O0:mQ 73 Ik:=mW func73 (by kernel_rfl) call73
theorem OZ:mQ 74 N3:=mW func74 (by kernel_rfl) call74
theorem OY:mQ 75 N2:=mW func75 (by kernel_rfl) call75
theorem OX:mQ 76 Nr:=mW func76 (by kernel_rfl) call76
theorem OW:mQ 77 Nq:=mW func77 (by kernel_rfl) call77
theorem OV:mQ 78 Np:=mW func78 (by kernel_rfl) call78
theorem OU:mQ 79 No:=mW func79 (by kernel_rfl) call79
theorem OT:mQ 80 N1:=mW func80 (by kernel_rfl) call80
theorem OS:mQ 81 N0:=mW func81 (by kernel_rfl) call81
theorem OQ:mQ 82 NZ:=mW func82 (by kernel_rfl) call82
theorem OP:mQ 83 NY:=mW func83 (by kernel_rfl) call83
theorem OO:mQ 84 NX:=mW func84 (by kernel_rfl) call84
theorem ON:mQ 85 NW:=mW func85 (by kernel_rfl) call85
theorem OM:mQ 86 NV:=mW func86 (by kernel_rfl) call86
theorem OL:mQ 87 NU:=mW func87 (by kernel_rfl) call87
theorem OK:mQ 88 NT:=mW func88 (by kernel_rfl) call88
theorem wV:mQ 98 Ij:=mW func98 (by kernel_rfl) call98
theorem OJ:mQ 99 NS:=mW func99 (by kernel_rfl) call99
theorem MR:mQ 100 Lg:=mW func100 (by kernel_rfl) call100
theorem MQ:mQ 101 Lf:=mW func101 (by kernel_rfl) call101
theorem MP:mQ 102 Le:=mW func102 (by kernel_rfl) call102
theorem MO:mQ 103 Ld:=mW func103 (by kernel_rfl) call103
theorem MN:mQ 104 Lc:=mW func104 (by kernel_rfl) call104
theorem MM:mQ 105 Lb:=mW func105 (by kernel_rfl) call105
theorem ML:mQ 106 La:=mW func106 (by kernel_rfl) call106
theorem MK:mQ 107 K_:=mW func107 (by kernel_rfl) call107
theorem MJ:mQ 108 K9:=mW func108 (by kernel_rfl) call108
theorem MI:mQ 109 K8:=mW func109 (by kernel_rfl) call109
theorem MH:mQ 110 K7:=mW func110 (by kernel_rfl) call110
theorem MG:mQ 111 K6:=mW func111 (by kernel_rfl) call111
theorem MF:mQ 112 K5:=mW func112 (by kernel_rfl) call112
theorem ME:mQ 113 K4:=mW func113 (by kernel_rfl) call113
theorem MD:mQ 114 K3:=mW func114 (by kernel_rfl) call114
theorem MC:mQ 115 KZ:=mW func115 (by kernel_rfl) call115
theorem MB:mQ 116 KY:=mW func116 (by kernel_rfl) call116
theorem MA:mQ 117 KX:=mW func117 (by kernel_rfl) call117
theorem Mz:mQ 118 KV:=mW func118 (by kernel_rfl) call118
theorem My:mQ 119 KU:=mW func119 (by kernel_rfl) call119
theorem Mx:mQ 120 KT:=mW func120 (by kernel_rfl) call120
theorem Mw:mQ 121 KS:=mW func121 (by kernel_rfl) call121
theorem Mv:mQ 122 KR:=mW func122 (by kernel_rfl) call122
theorem Mu:mQ 130 KQ:=mW func130 (by kernel_rfl) call130
theorem Mt:mQ 131 KP:=mW func131 (by kernel_rfl) call131
theorem Ms:mQ 132 KO:=mW func132 (by kernel_rfl) call132
theorem kq:mQ 133 zX:=mW func133 (by kernel_rfl) call133
theorem Mr:mQ 134 KN:=mW func134 (by kernel_rfl) call134
theorem Mq:mQ 135 KM:=mW func135 (by kernel_rfl) call135
theorem Mp:mQ 136 KL:=mW func136 (by kernel_rfl) call136
theorem Mo:mQ 137 KK:=mW func137 (by kernel_rfl) call137
theorem Mn:mQ 138 KJ:=mW func138 (by kernel_rfl) call138
theorem Mm:mQ 139 KI:=mW func139 (by kernel_rfl) call139
theorem Ml:mQ 140 KH:=mW func140 (by kernel_rfl) call140
theorem Mk:mQ 141 KG:=mW func141 (by kernel_rfl) call141
theorem Mj:mQ 142 KF:=mW func142 (by kernel_rfl) call142
theorem Mi:mQ 143 KE:=mW func143 (by kernel_rfl) call143
theorem Mh:mQ 144 KD:=mW func144 (by kernel_rfl) call144
theorem Mg:mQ 145 KC:=mW func145 (by kernel_rfl) call145
theorem Mf:mQ 146 KB:=mW func146 (by kernel_rfl) call146
theorem Me:mQ 147 KA:=mW func147 (by kernel_rfl) call147
theorem Md:mQ 148 Kz:=mW func148 (by kernel_rfl) call148
theorem Mc:mQ 149 Ky:=mW func149 (by kernel_rfl) call149
theorem Mb:mQ 150 Kx:=mW func150 (by kernel_rfl) call150
theorem Ma:mQ 151 Kw:=mW func151 (by kernel_rfl) call151
theorem L_:mQ 152 Kv:=mW func152 (by kernel_rfl) call152
theorem L9:mQ 153 Ku:=mW func153 (by kernel_rfl) call153
theorem L8:mQ 154 Kt:=mW func154 (by kernel_rfl) call154
theorem L7:mQ 155 Ks:=mW func155 (by kernel_rfl) call155
theorem L6:mQ 161 Kr:=mW func161 (by kernel_rfl) call161
theorem L5:mQ 162 Kq:=mW func162 (by kernel_rfl) call162
theorem L4:mQ 163 Kp:=mW func163 (by kernel_rfl) call163
theorem L3:mQ 164 Ko:=mW func164 (by kernel_rfl) call164
theorem L2:mQ 165 Km:=mW func165 (by kernel_rfl) call165
theorem L1:mQ 166 Kl:=mW func166 (by kernel_rfl) call166
theorem L0:mQ 167 Kk:=mW func167 (by kernel_rfl) call167
theorem LZ:mQ 169 Kj:=mW func169 (by kernel_rfl) call169
theorem allM:Gd (oa Go.Proofs.Try.prog) prog (fun k=>k):=⟨trivial,⟨trivial,⟨trivial,⟨trivial,⟨trivial,⟨Pm,⟨O3,trivial,trivial⟩,trivial⟩,⟨trivial,⟨OU,⟨Mi,trivial,trivial⟩,trivial⟩,⟨MG,trivial,trivial⟩⟩⟩,⟨trivial,⟨Ph,⟨trivial,⟨Mq,trivial,trivial⟩,trivial⟩,⟨MO,⟨L0,trivial,trivial⟩,trivial⟩⟩,⟨trivial,⟨OL,⟨Ma,trivial,trivial⟩,trivial⟩,⟨My,trivial,trivial⟩⟩⟩⟩,⟨trivial,⟨trivial,⟨LY,⟨trivial,⟨Mt,trivial,trivial⟩,trivial⟩,⟨OJ,⟨L4,trivial,trivial⟩,trivial⟩⟩,⟨trivial,⟨OP,⟨Me,trivial,trivial⟩,trivial⟩,⟨MC,trivial,trivial⟩⟩⟩,⟨trivial,⟨Pe,⟨OY,⟨Mm,trivial,trivial⟩,trivial⟩,⟨MK,trivial,trivial⟩⟩,⟨O7,⟨trivial,⟨L7,trivial,trivial⟩,trivial⟩,trivial⟩⟩⟩⟩,⟨trivial,⟨trivial,⟨trivial,⟨Pk,trivial,⟨trivial,⟨L6,trivial,trivial⟩,trivial⟩⟩,⟨trivial,⟨OS,⟨Mg,trivial,trivial⟩,trivial⟩,⟨ME,trivial,trivial⟩⟩⟩,⟨trivial,⟨Pf,⟨O0,⟨Mo,trivial,trivial⟩,trivial⟩,⟨MM,⟨LZ,trivial,trivial⟩,trivial⟩⟩,⟨O9,⟨trivial,⟨L9,trivial,trivial⟩,trivial⟩,⟨Mw,trivial,trivial⟩⟩⟩⟩,⟨trivial,⟨trivial,⟨trivial,⟨trivial,⟨kq,trivial,trivial⟩,trivial⟩,⟨MQ,⟨L2,trivial,trivial⟩,trivial⟩⟩,⟨Pb,⟨ON,⟨Mc,trivial,trivial⟩,trivial⟩,⟨MA,trivial,trivial⟩⟩⟩,⟨trivial,⟨trivial,⟨OW,⟨Mk,trivial,trivial⟩,trivial⟩,⟨MI,trivial,trivial⟩⟩,⟨O5,trivial,trivial⟩⟩⟩⟩⟩,⟨trivial,⟨trivial,⟨trivial,⟨Po,trivial,⟨trivial,⟨OT,⟨Mh,trivial,trivial⟩,trivial⟩,⟨MF,trivial,trivial⟩⟩⟩,⟨trivial,⟨trivial,⟨trivial,⟨Mp,trivial,trivial⟩,trivial⟩,⟨MN,trivial,trivial⟩⟩,⟨O_,⟨OK,⟨L_,trivial,trivial⟩,trivial⟩,⟨Mx,trivial,trivial⟩⟩⟩⟩,⟨trivial,⟨trivial,⟨trivial,⟨trivial,⟨Ms,trivial,trivial⟩,trivial⟩,⟨MR,⟨L3,trivial,trivial⟩,trivial⟩⟩,⟨Pc,⟨OO,⟨Md,trivial,trivial⟩,trivial⟩,⟨MB,trivial,trivial⟩⟩⟩,⟨trivial,⟨trivial,⟨OX,⟨Ml,trivial,trivial⟩,trivial⟩,⟨MJ,trivial,trivial⟩⟩,⟨O6,trivial,trivial⟩⟩⟩⟩,⟨trivial,⟨trivial,⟨trivial,⟨trivial,⟨trivial,⟨Mu,trivial,trivial⟩,trivial⟩,⟨wV,⟨L5,trivial,trivial⟩,trivial⟩⟩,⟨Pd,⟨OQ,⟨Mf,trivial,trivial⟩,trivial⟩,⟨MD,trivial,trivial⟩⟩⟩,⟨trivial,⟨trivial,⟨OZ,⟨Mn,trivial,trivial⟩,trivial⟩,⟨ML,trivial,trivial⟩⟩,⟨O8,⟨trivial,⟨L8,trivial,trivial⟩,trivial⟩,⟨Mv,trivial,trivial⟩⟩⟩⟩,⟨trivial,⟨Pn,⟨Pj,⟨trivial,⟨Mr,trivial,trivial⟩,trivial⟩,⟨MP,⟨L1,trivial,trivial⟩,trivial⟩⟩,⟨Pa,⟨OM,⟨Mb,trivial,trivial⟩,trivial⟩,⟨Mz,trivial,trivial⟩⟩⟩,⟨trivial,⟨trivial,⟨OV,⟨Mj,trivial,trivial⟩,trivial⟩,⟨MH,trivial,trivial⟩⟩,⟨O4,trivial,trivial⟩⟩⟩⟩⟩⟩
theorem Nf (k:Nat):j7 Go.Proofs.Try.prog (interp prog k).fn:=(ux tf (fun f af h=>s7 prog (fun k=>k) allM f af h) k).2.2
end Go.Ax.dR
