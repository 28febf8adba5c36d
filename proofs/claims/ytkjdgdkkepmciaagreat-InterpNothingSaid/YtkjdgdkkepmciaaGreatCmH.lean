/-
  The clean machine, and what the law's functions do in it: part H of this claim's own texts. No conditions.
-/
import Derived.Test.YtkjdgdkkepmciaaGreatCmP
import Derived.Test.YtkjdgdkkepmciaaGreatCmC
import Derived.Test.YtkjdgdkkepmciaaGreatCmE
import Derived.WalkKit
import Derived.Maps.RangeWalk
import Derived.Test.YtkjdgdkkepmciaaGreatShelf
import Derived.DeepKeys4
namespace Go.Proofs.YtkjdgdkkepmciaaGreat.Cm
set_option maxRecDepth 100000 in
def ft : FT := (.node 147 c147 (.node 75 c75 (.node 39 c39 (.node 20 c20 (.node 11 c11 (.node 7 c7 (.node 5 c5 (.node 4 c4 (.node 3 c3 .leaf .leaf) .leaf) (.node 6 c6 .leaf .leaf)) (.node 9 c9 (.node 8 c8 .leaf .leaf) (.node 10 c10 .leaf .leaf))) (.node 16 c16 (.node 14 c14 (.node 13 c13 (.node 12 c12 .leaf .leaf) .leaf) (.node 15 c15 .leaf .leaf)) (.node 18 c18 (.node 17 c17 .leaf .leaf) (.node 19 c19 .leaf .leaf)))) (.node 29 c29 (.node 25 c25 (.node 23 c23 (.node 22 c22 (.node 21 c21 .leaf .leaf) .leaf) (.node 24 c24 .leaf .leaf)) (.node 27 c27 (.node 26 c26 .leaf .leaf) (.node 28 c28 .leaf .leaf))) (.node 34 c34 (.node 32 c32 (.node 31 c31 (.node 30 c30 .leaf .leaf) .leaf) (.node 33 c33 .leaf .leaf)) (.node 37 c37 (.node 35 c35 .leaf .leaf) (.node 38 c38 .leaf .leaf))))) (.node 57 c57 (.node 48 c48 (.node 44 c44 (.node 42 c42 (.node 41 c41 (.node 40 c40 .leaf .leaf) .leaf) (.node 43 c43 .leaf .leaf)) (.node 46 c46 (.node 45 c45 .leaf .leaf) (.node 47 c47 .leaf .leaf))) (.node 53 c53 (.node 51 c51 (.node 50 c50 (.node 49 c49 .leaf .leaf) .leaf) (.node 52 c52 .leaf .leaf)) (.node 55 c55 (.node 54 c54 .leaf .leaf) (.node 56 c56 .leaf .leaf)))) (.node 66 c66 (.node 62 c62 (.node 60 c60 (.node 59 c59 (.node 58 c58 .leaf .leaf) .leaf) (.node 61 c61 .leaf .leaf)) (.node 64 c64 (.node 63 c63 .leaf .leaf) (.node 65 c65 .leaf .leaf))) (.node 71 c71 (.node 69 c69 (.node 68 c68 (.node 67 c67 .leaf .leaf) .leaf) (.node 70 c70 .leaf .leaf)) (.node 73 c73 (.node 72 c72 .leaf .leaf) (.node 74 c74 .leaf .leaf)))))) (.node 112 c112 (.node 94 c94 (.node 85 c85 (.node 81 c81 (.node 79 c79 (.node 78 c78 (.node 77 c77 .leaf .leaf) .leaf) (.node 80 c80 .leaf .leaf)) (.node 83 c83 (.node 82 c82 .leaf .leaf) (.node 84 c84 .leaf .leaf))) (.node 90 c90 (.node 88 c88 (.node 87 c87 (.node 86 c86 .leaf .leaf) .leaf) (.node 89 c89 .leaf .leaf)) (.node 92 c92 (.node 91 c91 .leaf .leaf) (.node 93 c93 .leaf .leaf)))) (.node 103 c103 (.node 99 c99 (.node 97 c97 (.node 96 c96 (.node 95 c95 .leaf .leaf) .leaf) (.node 98 c98 .leaf .leaf)) (.node 101 c101 (.node 100 c100 .leaf .leaf) (.node 102 c102 .leaf .leaf))) (.node 108 c108 (.node 106 c106 (.node 105 c105 (.node 104 c104 .leaf .leaf) .leaf) (.node 107 c107 .leaf .leaf)) (.node 110 c110 (.node 109 c109 .leaf .leaf) (.node 111 c111 .leaf .leaf))))) (.node 130 c130 (.node 121 c121 (.node 117 c117 (.node 115 c115 (.node 114 c114 (.node 113 c113 .leaf .leaf) .leaf) (.node 116 c116 .leaf .leaf)) (.node 119 c119 (.node 118 c118 .leaf .leaf) (.node 120 c120 .leaf .leaf))) (.node 126 c126 (.node 124 c124 (.node 123 c123 (.node 122 c122 .leaf .leaf) .leaf) (.node 125 c125 .leaf .leaf)) (.node 128 c128 (.node 127 c127 .leaf .leaf) (.node 129 c129 .leaf .leaf)))) (.node 139 c139 (.node 135 c135 (.node 133 c133 (.node 132 c132 (.node 131 c131 .leaf .leaf) .leaf) (.node 134 c134 .leaf .leaf)) (.node 137 c137 (.node 136 c136 .leaf .leaf) (.node 138 c138 .leaf .leaf))) (.node 143 c143 (.node 141 c141 (.node 140 c140 .leaf .leaf) (.node 142 c142 .leaf .leaf)) (.node 145 c145 (.node 144 c144 .leaf .leaf) (.node 146 c146 .leaf .leaf))))))) (.node 220 c220 (.node 183 c183 (.node 165 c165 (.node 156 c156 (.node 152 c152 (.node 150 c150 (.node 149 c149 (.node 148 c148 .leaf .leaf) .leaf) (.node 151 c151 .leaf .leaf)) (.node 154 c154 (.node 153 c153 .leaf .leaf) (.node 155 c155 .leaf .leaf))) (.node 161 c161 (.node 159 c159 (.node 158 c158 (.node 157 c157 .leaf .leaf) .leaf) (.node 160 c160 .leaf .leaf)) (.node 163 c163 (.node 162 c162 .leaf .leaf) (.node 164 c164 .leaf .leaf)))) (.node 174 c174 (.node 170 c170 (.node 168 c168 (.node 167 c167 (.node 166 c166 .leaf .leaf) .leaf) (.node 169 c169 .leaf .leaf)) (.node 172 c172 (.node 171 c171 .leaf .leaf) (.node 173 c173 .leaf .leaf))) (.node 179 c179 (.node 177 c177 (.node 176 c176 (.node 175 c175 .leaf .leaf) .leaf) (.node 178 c178 .leaf .leaf)) (.node 181 c181 (.node 180 c180 .leaf .leaf) (.node 182 c182 .leaf .leaf))))) (.node 201 c201 (.node 192 c192 (.node 188 c188 (.node 186 c186 (.node 185 c185 (.node 184 c184 .leaf .leaf) .leaf) (.node 187 c187 .leaf .leaf)) (.node 190 c190 (.node 189 c189 .leaf .leaf) (.node 191 c191 .leaf .leaf))) (.node 197 c197 (.node 195 c195 (.node 194 c194 (.node 193 c193 .leaf .leaf) .leaf) (.node 196 c196 .leaf .leaf)) (.node 199 c199 (.node 198 c198 .leaf .leaf) (.node 200 c200 .leaf .leaf)))) (.node 211 c211 (.node 207 c207 (.node 204 c204 (.node 203 c203 (.node 202 c202 .leaf .leaf) .leaf) (.node 206 c206 .leaf .leaf)) (.node 209 c209 (.node 208 c208 .leaf .leaf) (.node 210 c210 .leaf .leaf))) (.node 215 c215 (.node 213 c213 (.node 212 c212 .leaf .leaf) (.node 214 c214 .leaf .leaf)) (.node 218 c218 (.node 216 c216 .leaf .leaf) (.node 219 c219 .leaf .leaf)))))) (.node 256 c256 (.node 238 c238 (.node 229 c229 (.node 225 c225 (.node 223 c223 (.node 222 c222 (.node 221 c221 .leaf .leaf) .leaf) (.node 224 c224 .leaf .leaf)) (.node 227 c227 (.node 226 c226 .leaf .leaf) (.node 228 c228 .leaf .leaf))) (.node 234 c234 (.node 232 c232 (.node 231 c231 (.node 230 c230 .leaf .leaf) .leaf) (.node 233 c233 .leaf .leaf)) (.node 236 c236 (.node 235 c235 .leaf .leaf) (.node 237 c237 .leaf .leaf)))) (.node 247 c247 (.node 243 c243 (.node 241 c241 (.node 240 c240 (.node 239 c239 .leaf .leaf) .leaf) (.node 242 c242 .leaf .leaf)) (.node 245 c245 (.node 244 c244 .leaf .leaf) (.node 246 c246 .leaf .leaf))) (.node 252 c252 (.node 250 c250 (.node 249 c249 (.node 248 c248 .leaf .leaf) .leaf) (.node 251 c251 .leaf .leaf)) (.node 254 c254 (.node 253 c253 .leaf .leaf) (.node 255 c255 .leaf .leaf))))) (.node 279 c279 (.node 266 c266 (.node 261 c261 (.node 259 c259 (.node 258 c258 (.node 257 c257 .leaf .leaf) .leaf) (.node 260 c260 .leaf .leaf)) (.node 263 c263 (.node 262 c262 .leaf .leaf) (.node 265 c265 .leaf .leaf))) (.node 273 c273 (.node 271 c271 (.node 270 c270 (.node 267 c267 .leaf .leaf) .leaf) (.node 272 c272 .leaf .leaf)) (.node 277 c277 (.node 276 c276 .leaf .leaf) (.node 278 c278 .leaf .leaf)))) (.node 292 c292 (.node 284 c284 (.node 282 c282 (.node 281 c281 (.node 280 c280 .leaf .leaf) .leaf) (.node 283 c283 .leaf .leaf)) (.node 290 c290 (.node 286 c286 .leaf .leaf) (.node 291 c291 .leaf .leaf))) (.node 350 c350 (.node 298 c298 (.node 293 c293 .leaf .leaf) (.node 301 c301 .leaf .leaf)) (.node 352 c352 (.node 351 c351 .leaf .leaf) (.node 353 c353 .leaf .leaf))))))))
set_option maxRecDepth 100000 in
theorem ft_ok : ft.Ok prog glb := ⟨compFunc_R mixed rfl ok147, ⟨compFunc_R mixed rfl ok75, ⟨compFunc_R mixed rfl ok39, ⟨compFunc_R mixed rfl ok20, ⟨compFunc_R mixed rfl ok11, ⟨compFunc_R mixed rfl ok7, ⟨compFunc_R mixed rfl ok5, ⟨compFunc_R mixed rfl ok4, ⟨compFunc_R mixed rfl ok3, trivial, trivial⟩, trivial⟩, ⟨compFunc_R mixed rfl ok6, trivial, trivial⟩⟩, ⟨compFunc_R mixed rfl ok9, ⟨compFunc_R mixed rfl ok8, trivial, trivial⟩, ⟨compFunc_R mixed rfl ok10, trivial, trivial⟩⟩⟩, ⟨compFunc_R mixed rfl ok16, ⟨compFunc_R mixed rfl ok14, ⟨compFunc_R mixed rfl ok13, ⟨compFunc_R mixed rfl ok12, trivial, trivial⟩, trivial⟩, ⟨compFunc_R mixed rfl ok15, trivial, trivial⟩⟩, ⟨compFunc_R mixed rfl ok18, ⟨compFunc_R mixed rfl ok17, trivial, trivial⟩, ⟨compFunc_R mixed rfl ok19, trivial, trivial⟩⟩⟩⟩, ⟨compFunc_R mixed rfl ok29, ⟨compFunc_R mixed rfl ok25, ⟨compFunc_R mixed rfl ok23, ⟨compFunc_R mixed rfl ok22, ⟨compFunc_R mixed rfl ok21, trivial, trivial⟩, trivial⟩, ⟨compFunc_R mixed rfl ok24, trivial, trivial⟩⟩, ⟨compFunc_R mixed rfl ok27, ⟨compFunc_R mixed rfl ok26, trivial, trivial⟩, ⟨compFunc_R mixed rfl ok28, trivial, trivial⟩⟩⟩, ⟨compFunc_R mixed rfl ok34, ⟨compFunc_R mixed rfl ok32, ⟨compFunc_R mixed rfl ok31, ⟨compFunc_R mixed rfl ok30, trivial, trivial⟩, trivial⟩, ⟨compFunc_R mixed rfl ok33, trivial, trivial⟩⟩, ⟨compFunc_R mixed rfl ok37, ⟨compFunc_R mixed rfl ok35, trivial, trivial⟩, ⟨compFunc_R mixed rfl ok38, trivial, trivial⟩⟩⟩⟩⟩, ⟨compFunc_R mixed rfl ok57, ⟨compFunc_R mixed rfl ok48, ⟨compFunc_R mixed rfl ok44, ⟨compFunc_R mixed rfl ok42, ⟨compFunc_R mixed rfl ok41, ⟨compFunc_R mixed rfl ok40, trivial, trivial⟩, trivial⟩, ⟨compFunc_R mixed rfl ok43, trivial, trivial⟩⟩, ⟨compFunc_R mixed rfl ok46, ⟨compFunc_R mixed rfl ok45, trivial, trivial⟩, ⟨compFunc_R mixed rfl ok47, trivial, trivial⟩⟩⟩, ⟨compFunc_R mixed rfl ok53, ⟨compFunc_R mixed rfl ok51, ⟨compFunc_R mixed rfl ok50, ⟨compFunc_R mixed rfl ok49, trivial, trivial⟩, trivial⟩, ⟨compFunc_R mixed rfl ok52, trivial, trivial⟩⟩, ⟨compFunc_R mixed rfl ok55, ⟨compFunc_R mixed rfl ok54, trivial, trivial⟩, ⟨compFunc_R mixed rfl ok56, trivial, trivial⟩⟩⟩⟩, ⟨compFunc_R mixed rfl ok66, ⟨compFunc_R mixed rfl ok62, ⟨compFunc_R mixed rfl ok60, ⟨compFunc_R mixed rfl ok59, ⟨compFunc_R mixed rfl ok58, trivial, trivial⟩, trivial⟩, ⟨compFunc_R mixed rfl ok61, trivial, trivial⟩⟩, ⟨compFunc_R mixed rfl ok64, ⟨compFunc_R mixed rfl ok63, trivial, trivial⟩, ⟨compFunc_R mixed rfl ok65, trivial, trivial⟩⟩⟩, ⟨compFunc_R mixed rfl ok71, ⟨compFunc_R mixed rfl ok69, ⟨compFunc_R mixed rfl ok68, ⟨compFunc_R mixed rfl ok67, trivial, trivial⟩, trivial⟩, ⟨compFunc_R mixed rfl ok70, trivial, trivial⟩⟩, ⟨compFunc_R mixed rfl ok73, ⟨compFunc_R mixed rfl ok72, trivial, trivial⟩, ⟨compFunc_R mixed rfl ok74, trivial, trivial⟩⟩⟩⟩⟩⟩, ⟨compFunc_R mixed rfl ok112, ⟨compFunc_R mixed rfl ok94, ⟨compFunc_R mixed rfl ok85, ⟨compFunc_R mixed rfl ok81, ⟨compFunc_R mixed rfl ok79, ⟨compFunc_R mixed rfl ok78, ⟨compFunc_R mixed rfl ok77, trivial, trivial⟩, trivial⟩, ⟨compFunc_R mixed rfl ok80, trivial, trivial⟩⟩, ⟨compFunc_R mixed rfl ok83, ⟨compFunc_R mixed rfl ok82, trivial, trivial⟩, ⟨compFunc_R mixed rfl ok84, trivial, trivial⟩⟩⟩, ⟨compFunc_R mixed rfl ok90, ⟨compFunc_R mixed rfl ok88, ⟨compFunc_R mixed rfl ok87, ⟨compFunc_R mixed rfl ok86, trivial, trivial⟩, trivial⟩, ⟨compFunc_R mixed rfl ok89, trivial, trivial⟩⟩, ⟨compFunc_R mixed rfl ok92, ⟨compFunc_R mixed rfl ok91, trivial, trivial⟩, ⟨compFunc_R mixed rfl ok93, trivial, trivial⟩⟩⟩⟩, ⟨compFunc_R mixed rfl ok103, ⟨compFunc_R mixed rfl ok99, ⟨compFunc_R mixed rfl ok97, ⟨compFunc_R mixed rfl ok96, ⟨compFunc_R mixed rfl ok95, trivial, trivial⟩, trivial⟩, ⟨compFunc_R mixed rfl ok98, trivial, trivial⟩⟩, ⟨compFunc_R mixed rfl ok101, ⟨compFunc_R mixed rfl ok100, trivial, trivial⟩, ⟨compFunc_R mixed rfl ok102, trivial, trivial⟩⟩⟩, ⟨compFunc_R mixed rfl ok108, ⟨compFunc_R mixed rfl ok106, ⟨compFunc_R mixed rfl ok105, ⟨compFunc_R mixed rfl ok104, trivial, trivial⟩, trivial⟩, ⟨compFunc_R mixed rfl ok107, trivial, trivial⟩⟩, ⟨compFunc_R mixed rfl ok110, ⟨compFunc_R mixed rfl ok109, trivial, trivial⟩, ⟨compFunc_R mixed rfl ok111, trivial, trivial⟩⟩⟩⟩⟩, ⟨compFunc_R mixed rfl ok130, ⟨compFunc_R mixed rfl ok121, ⟨compFunc_R mixed rfl ok117, ⟨compFunc_R mixed rfl ok115, ⟨compFunc_R mixed rfl ok114, ⟨compFunc_R mixed rfl ok113, trivial, trivial⟩, trivial⟩, ⟨compFunc_R mixed rfl ok116, trivial, trivial⟩⟩, ⟨compFunc_R mixed rfl ok119, ⟨compFunc_R mixed rfl ok118, trivial, trivial⟩, ⟨compFunc_R mixed rfl ok120, trivial, trivial⟩⟩⟩, ⟨compFunc_R mixed rfl ok126, ⟨compFunc_R mixed rfl ok124, ⟨compFunc_R mixed rfl ok123, ⟨compFunc_R mixed rfl ok122, trivial, trivial⟩, trivial⟩, ⟨compFunc_R mixed rfl ok125, trivial, trivial⟩⟩, ⟨compFunc_R mixed rfl ok128, ⟨compFunc_R mixed rfl ok127, trivial, trivial⟩, ⟨compFunc_R mixed rfl ok129, trivial, trivial⟩⟩⟩⟩, ⟨compFunc_R mixed rfl ok139, ⟨compFunc_R mixed rfl ok135, ⟨compFunc_R mixed rfl ok133, ⟨compFunc_R mixed rfl ok132, ⟨compFunc_R mixed rfl ok131, trivial, trivial⟩, trivial⟩, ⟨compFunc_R mixed rfl ok134, trivial, trivial⟩⟩, ⟨compFunc_R mixed rfl ok137, ⟨compFunc_R mixed rfl ok136, trivial, trivial⟩, ⟨compFunc_R mixed rfl ok138, trivial, trivial⟩⟩⟩, ⟨compFunc_R mixed rfl ok143, ⟨compFunc_R mixed rfl ok141, ⟨compFunc_R mixed rfl ok140, trivial, trivial⟩, ⟨compFunc_R mixed rfl ok142, trivial, trivial⟩⟩, ⟨compFunc_R mixed rfl ok145, ⟨compFunc_R mixed rfl ok144, trivial, trivial⟩, ⟨compFunc_R mixed rfl ok146, trivial, trivial⟩⟩⟩⟩⟩⟩⟩, ⟨compFunc_R mixed rfl ok220, ⟨compFunc_R mixed rfl ok183, ⟨compFunc_R mixed rfl ok165, ⟨compFunc_R mixed rfl ok156, ⟨compFunc_R mixed rfl ok152, ⟨compFunc_R mixed rfl ok150, ⟨compFunc_R mixed rfl ok149, ⟨compFunc_R mixed rfl ok148, trivial, trivial⟩, trivial⟩, ⟨compFunc_R mixed rfl ok151, trivial, trivial⟩⟩, ⟨compFunc_R mixed rfl ok154, ⟨compFunc_R mixed rfl ok153, trivial, trivial⟩, ⟨compFunc_R mixed rfl ok155, trivial, trivial⟩⟩⟩, ⟨compFunc_R mixed rfl ok161, ⟨compFunc_R mixed rfl ok159, ⟨compFunc_R mixed rfl ok158, ⟨compFunc_R mixed rfl ok157, trivial, trivial⟩, trivial⟩, ⟨compFunc_R mixed rfl ok160, trivial, trivial⟩⟩, ⟨compFunc_R mixed rfl ok163, ⟨compFunc_R mixed rfl ok162, trivial, trivial⟩, ⟨compFunc_R mixed rfl ok164, trivial, trivial⟩⟩⟩⟩, ⟨compFunc_R mixed rfl ok174, ⟨compFunc_R mixed rfl ok170, ⟨compFunc_R mixed rfl ok168, ⟨compFunc_R mixed rfl ok167, ⟨compFunc_R mixed rfl ok166, trivial, trivial⟩, trivial⟩, ⟨compFunc_R mixed rfl ok169, trivial, trivial⟩⟩, ⟨compFunc_R mixed rfl ok172, ⟨compFunc_R mixed rfl ok171, trivial, trivial⟩, ⟨compFunc_R mixed rfl ok173, trivial, trivial⟩⟩⟩, ⟨compFunc_R mixed rfl ok179, ⟨compFunc_R mixed rfl ok177, ⟨compFunc_R mixed rfl ok176, ⟨compFunc_R mixed rfl ok175, trivial, trivial⟩, trivial⟩, ⟨compFunc_R mixed rfl ok178, trivial, trivial⟩⟩, ⟨compFunc_R mixed rfl ok181, ⟨compFunc_R mixed rfl ok180, trivial, trivial⟩, ⟨compFunc_R mixed rfl ok182, trivial, trivial⟩⟩⟩⟩⟩, ⟨compFunc_R mixed rfl ok201, ⟨compFunc_R mixed rfl ok192, ⟨compFunc_R mixed rfl ok188, ⟨compFunc_R mixed rfl ok186, ⟨compFunc_R mixed rfl ok185, ⟨compFunc_R mixed rfl ok184, trivial, trivial⟩, trivial⟩, ⟨compFunc_R mixed rfl ok187, trivial, trivial⟩⟩, ⟨compFunc_R mixed rfl ok190, ⟨compFunc_R mixed rfl ok189, trivial, trivial⟩, ⟨compFunc_R mixed rfl ok191, trivial, trivial⟩⟩⟩, ⟨compFunc_R mixed rfl ok197, ⟨compFunc_R mixed rfl ok195, ⟨compFunc_R mixed rfl ok194, ⟨compFunc_R mixed rfl ok193, trivial, trivial⟩, trivial⟩, ⟨compFunc_R mixed rfl ok196, trivial, trivial⟩⟩, ⟨compFunc_R mixed rfl ok199, ⟨compFunc_R mixed rfl ok198, trivial, trivial⟩, ⟨compFunc_R mixed rfl ok200, trivial, trivial⟩⟩⟩⟩, ⟨compFunc_R mixed rfl ok211, ⟨compFunc_R mixed rfl ok207, ⟨compFunc_R mixed rfl ok204, ⟨compFunc_R mixed rfl ok203, ⟨compFunc_R mixed rfl ok202, trivial, trivial⟩, trivial⟩, ⟨compFunc_R mixed rfl ok206, trivial, trivial⟩⟩, ⟨compFunc_R mixed rfl ok209, ⟨compFunc_R mixed rfl ok208, trivial, trivial⟩, ⟨compFunc_R mixed rfl ok210, trivial, trivial⟩⟩⟩, ⟨compFunc_R mixed rfl ok215, ⟨compFunc_R mixed rfl ok213, ⟨compFunc_R mixed rfl ok212, trivial, trivial⟩, ⟨compFunc_R mixed rfl ok214, trivial, trivial⟩⟩, ⟨compFunc_R mixed rfl ok218, ⟨compFunc_R mixed rfl ok216, trivial, trivial⟩, ⟨compFunc_R mixed rfl ok219, trivial, trivial⟩⟩⟩⟩⟩⟩, ⟨compFunc_R mixed rfl ok256, ⟨compFunc_R mixed rfl ok238, ⟨compFunc_R mixed rfl ok229, ⟨compFunc_R mixed rfl ok225, ⟨compFunc_R mixed rfl ok223, ⟨compFunc_R mixed rfl ok222, ⟨compFunc_R mixed rfl ok221, trivial, trivial⟩, trivial⟩, ⟨compFunc_R mixed rfl ok224, trivial, trivial⟩⟩, ⟨compFunc_R mixed rfl ok227, ⟨compFunc_R mixed rfl ok226, trivial, trivial⟩, ⟨compFunc_R mixed rfl ok228, trivial, trivial⟩⟩⟩, ⟨compFunc_R mixed rfl ok234, ⟨compFunc_R mixed rfl ok232, ⟨compFunc_R mixed rfl ok231, ⟨compFunc_R mixed rfl ok230, trivial, trivial⟩, trivial⟩, ⟨compFunc_R mixed rfl ok233, trivial, trivial⟩⟩, ⟨compFunc_R mixed rfl ok236, ⟨compFunc_R mixed rfl ok235, trivial, trivial⟩, ⟨compFunc_R mixed rfl ok237, trivial, trivial⟩⟩⟩⟩, ⟨compFunc_R mixed rfl ok247, ⟨compFunc_R mixed rfl ok243, ⟨compFunc_R mixed rfl ok241, ⟨compFunc_R mixed rfl ok240, ⟨compFunc_R mixed rfl ok239, trivial, trivial⟩, trivial⟩, ⟨compFunc_R mixed rfl ok242, trivial, trivial⟩⟩, ⟨compFunc_R mixed rfl ok245, ⟨compFunc_R mixed rfl ok244, trivial, trivial⟩, ⟨compFunc_R mixed rfl ok246, trivial, trivial⟩⟩⟩, ⟨compFunc_R mixed rfl ok252, ⟨compFunc_R mixed rfl ok250, ⟨compFunc_R mixed rfl ok249, ⟨compFunc_R mixed rfl ok248, trivial, trivial⟩, trivial⟩, ⟨compFunc_R mixed rfl ok251, trivial, trivial⟩⟩, ⟨compFunc_R mixed rfl ok254, ⟨compFunc_R mixed rfl ok253, trivial, trivial⟩, ⟨compFunc_R mixed rfl ok255, trivial, trivial⟩⟩⟩⟩⟩, ⟨compFunc_R mixed rfl ok279, ⟨compFunc_R mixed rfl ok266, ⟨compFunc_R mixed rfl ok261, ⟨compFunc_R mixed rfl ok259, ⟨compFunc_R mixed rfl ok258, ⟨compFunc_R mixed rfl ok257, trivial, trivial⟩, trivial⟩, ⟨compFunc_R mixed rfl ok260, trivial, trivial⟩⟩, ⟨compFunc_R mixed rfl ok263, ⟨compFunc_R mixed rfl ok262, trivial, trivial⟩, ⟨compFunc_R mixed rfl ok265, trivial, trivial⟩⟩⟩, ⟨compFunc_R mixed rfl ok273, ⟨compFunc_R mixed rfl ok271, ⟨compFunc_R mixed rfl ok270, ⟨compFunc_R mixed rfl ok267, trivial, trivial⟩, trivial⟩, ⟨compFunc_R mixed rfl ok272, trivial, trivial⟩⟩, ⟨compFunc_R mixed rfl ok277, ⟨compFunc_R mixed rfl ok276, trivial, trivial⟩, ⟨compFunc_R mixed rfl ok278, trivial, trivial⟩⟩⟩⟩, ⟨compFunc_R mixed rfl ok292, ⟨compFunc_R mixed rfl ok284, ⟨compFunc_R mixed rfl ok282, ⟨compFunc_R mixed rfl ok281, ⟨compFunc_R mixed rfl ok280, trivial, trivial⟩, trivial⟩, ⟨compFunc_R mixed rfl ok283, trivial, trivial⟩⟩, ⟨compFunc_R mixed rfl ok290, ⟨compFunc_R mixed rfl ok286, trivial, trivial⟩, ⟨compFunc_R mixed rfl ok291, trivial, trivial⟩⟩⟩, ⟨compFunc_R mixed rfl ok350, ⟨compFunc_R mixed rfl ok298, ⟨compFunc_R mixed rfl ok293, trivial, trivial⟩, ⟨compFunc_R mixed rfl ok301, trivial, trivial⟩⟩, ⟨compFunc_R mixed rfl ok352, ⟨compFunc_R mixed rfl ok351, trivial, trivial⟩, ⟨compFunc_R mixed rfl ok353, trivial, trivial⟩⟩⟩⟩⟩⟩⟩⟩
def rounds : List (Nat × Nat × RoundC) := [(215, 0, r215_0)]
def dfns : List (Nat × CFunc) := [(36, c36), (205, c205)]
abbrev tab0 : Tab := { ft.tabR rounds with dcode := findD dfns }
set_option maxRecDepth 100000 in
theorem tabOk : TabOk prog glb tab0 := have h := FT.tabR_ok (l := rounds) ft_ok ⟨compRound_R mixed rfl okr215_0, trivial⟩
 ⟨h.code, h.prim, h.rounds, fun _ _ e => findD_ok (l := dfns) ⟨compFuncD_R mixed okd36, ⟨compFuncD_R mixed okd205, trivial⟩⟩ e⟩
def isTrue : Option (CVal × Heap) → Bool
 | some (.bool true, _) => true
 | _ => false
end Go.Proofs.YtkjdgdkkepmciaaGreat.Cm
namespace Go.Proofs.YtkjdgdkkepmciaaGreat.Cm
open Go Go.RowKit Go.Maps Go.WideElems
theorem Come.entry {P : Program} {w0 w : World} {b r clock : Nat} {E : Array MapEntry} {pd : MapEntry → Bool} {seen : Array Nat} {e : MapEntry} (h : Come w0 b r E clock pd seen e w) (hn : (E.toList.map (·.born)).Nodup) :
 (Instr.entry (.pointer (some ⟨r, 0, none⟩))).run P w = .ok (.tuple #[e.key, e.val]) w := by
 obtain ⟨hm, hs, E', hb, hE, hr, hg⟩ := h
 refine run_entry_at (P := P) w r b clock seen E' clock e hr hb ?_ ?_
 ·rw [hE]; exact List.mem_filter.2 ⟨hm, by rw [hs]; rfl⟩
 ·rw [hE]; exact (List.filter_sublist.map _).nodup hn
theorem Strk.less {w0 w w' : World} {b r clock : Nat} {E : Array MapEntry} {pd : MapEntry → Bool} {seen : Array Nat} {x : MapEntry} (h : Strk w0 b r E clock pd seen w) (h' : Strk w0 b r E clock pd (seen.push x.born) w') (hm : x ∈ E.toList) (hs : seen.contains x.born = false) :
 w'.rangeLeft b r < w.rangeLeft b r := by
 rw [h.left, h'.left]
 have e1 : (E.toList.filter fun e => !(seen.push x.born).contains e.born) = (E.toList.filter fun e => !seen.contains e.born).filter fun e => !(e.born == x.born) := by
  rw [List.filter_filter]
  refine List.filter_congr fun e _ => ?_
  rw [contains_push]
  cases seen.contains e.born <;> cases e.born == x.born <;> rfl
 rw [e1]
 exact List.length_filter_lt_length_iff_exists.2 ⟨x, List.mem_filter.2 ⟨hm, by rw [hs]; rfl⟩, by simp⟩
theorem cell_kept {w1 w2 : World} {cs : Array Value} {ty : TypeId} (hg : (w1.alloc (.cells cs ty)).grownBy w2 none) {i : Nat} {v : Value} (h : cs[i]? = some v) : w2.cell? ⟨w1.heap.size, i, none⟩ = some v := by
 have h1 : w2.heap[w1.heap.size]? = some (.cells cs ty (0, 0)) := by
  rw [hg.block w1.heap.size (by simp) (by simp)]
  exact (MapKept.heap_alloc w1 _).1
 simp [World.cell?, h1, h]
section
variable {P : Program} {ops : Array Oper} {rest : List Oper} {o : Oper} {a : Act} {Q : Exit → Act → World → Prop} {w w0 : World} {b r clock : Nat} {E : Array MapEntry} {pd : MapEntry → Bool} {seen : Array Nat} {k e : TypeId}
theorem wpL_range (hg : o.guard = none) (m : Operand) (t : TypeId) (hop : o.op = Op.range t m) (ht : P.underlying t = some (.map k e)) (hm : a.eval m = .map (some b)) (hb : w.heap[b]? = some (.map E clock)) (pd : MapEntry → Bool)
 (hK : ∀ w', Strk w b w.heap.size E clock pd #[] w' → wpList P ops Q rest (a.put o.dst (.pointer (some ⟨w.heap.size, 0, none⟩))) w') : wpList P ops Q (o :: rest) a w := by
 refine wpList_plain hg fun K' hK' => ?_
 obtain ⟨w', hrun, r1⟩ := Strk.start (pd := pd) ht hb
 unfold Oper.wp
 simp [execOp, hop, hm, hrun, Result.andThen]
 exact hK' _ _ (hK w' r1)
theorem wpL_next (hg : o.guard = none) (it : Operand) (hop : o.op = Op.next it false) (hit : a.eval it = .pointer (some ⟨r, 0, none⟩)) (h : Strk w0 b r E clock pd seen w) (hrb : r ≠ b) (hr0 : w0.heap.size ≤ r) (hold : ∀ x ∈ E.toList, x.born < clock)
 (hDone : (∀ x ∈ E.toList, seen.contains x.born = true) → wpList P ops Q rest (a.put o.dst (.tuple #[.bool false])) w)
 (hMore : ∀ (x : MapEntry) (w' : World), Come w0 b r E clock pd seen x w' → wpList P ops Q rest (a.put o.dst (.tuple #[.bool true, x.key, x.val])) w') : wpList P ops Q (o :: rest) a w := by
 refine wpList_plain hg fun K' hK' => ?_
 unfold Oper.wp
 rcases h.next (P := P) hrb hr0 hold o.type with ⟨hall, hrun⟩ | ⟨x, w', hrun, hc⟩
 ·simp [execOp, hop, hit, hrun, Result.andThen]
  exact hK' _ _ (hDone hall)
 ·simp [execOp, hop, hit, hrun, Result.andThen]
  exact hK' _ _ (hMore x w' hc)
theorem wpL_delete {H : Type} {R : Value → Option (DataW H × List MemPlace)} {kl : Lit} {x : MapEntry} (hg : o.guard = none) (m y : Operand) (t : TypeId) (hop : o.op = Op.call { callee := Callee.builtin Builtin.delete, args := #[m, y], argTypes := #[t, k] })
 (K : Keyed P k) (ht : P.underlying t = some (.map k e)) (hm : a.eval m = .map (some b)) (h : Come w0 b r E clock pd seen x w) (hrb : r ≠ b) (F : Fit P k R E clock) (hy : a.eval y = x.key) (hkey : keyOf P k x.key = some kl) (hp : pd x = true)
 (hK : ∀ w', Strk w0 b r E clock pd (seen.push x.born) w' → wpList P ops Q rest (a.put o.dst (.tuple #[])) w') : wpList P ops Q (o :: rest) a w := by
 refine wpList_plain hg fun K' hK' => ?_
 obtain ⟨w', hrun, r1⟩ := h.drop hrb K ht F hkey hp o.type
 unfold Oper.wp
 simp [execOp, hop, resolve, invoke, builtin, hm, hy, hrun, Result.andThen]
 exact hK' _ _ (hK w' r1)
end
set_option maxRecDepth 100000 in
set_option maxHeartbeats 1000000 in
theorem del_raw (g : Nat) (cb : Array Value) (b clock : Nat) (E : Array MapEntry) (pd : MapEntry → Bool) (w : World) (K : Keyed Tryz.prog 167) (hb : w.heap[b]? = some (.map E clock)) (F : Fit Tryz.prog 167 (fun _ => some ((.nil : DataW Unit), [])) E clock)
 (hk : ∀ x ∈ E.toList, ∃ p q : Int, x.key = .agg #[.int .i64 p, .int .i64 q]) (hv : ∀ x ∈ E.toList, ∃ n : Int, x.val = .int .i64 n)
 {kl : MapEntry → Lit} (hkey : ∀ x ∈ E.toList, keyOf Tryz.prog 167 x.key = some (kl x))
 (eg : ∀ args w, (callFunc g args).run Tryz.prog w = .ok (.enter g args) w)
 (hdel : ∀ (W : World) (x : MapEntry), x ∈ E.toList → w.grownBy W (some b) → Calls Tryz.prog g (#[x.key, x.val] ++ cb) W fun e w' => e = .returned (.bool (pd x)) ∧ W.grownBy w' none) :
 Calls Tryz.prog 76 #[.map (some b), .func (.func g) #[] cb] w fun e w' => e = .returned (.tuple #[]) ∧ ∃ E' : Array MapEntry, w'.heap[b]? = some (.map E' clock) ∧ E'.toList = E.toList.filter (fun x => !pd x) ∧ w.grownBy w' (some b) := by
 have hst := (MapKept.stamped_iff E clock).1 F.stamped
 have hblt : b < w.heap.size := (Array.getElem?_eq_some_iff.1 hb).1
 go_enter Tryz.func76, Tryz.ntmps76
 go_wp2_with (first
  | (at_range; refine wpL_range rfl _ 155 rfl Tryz.underlying155 rfl hb pd ?_; intro w0 hs0)
  | go_in)
 go_frame
 go_loopw [8] (fun _ wr => ∃ seen, Strk w b w.heap.size E clock pd seen wr) (fun _ wr => wr.rangeLeft b w.heap.size)
 case atStart => exact ⟨_, hs0⟩
 case round =>
  obtain ⟨seen, hS⟩ := hrel
  go_wp2_with (first
   | (at_next; refine wpL_next rfl _ rfl rfl hS (by omega) (Nat.le_refl _) hst.1 ?_ ?_)
   | go_in)
  ·intro hall
   go_wp2
   go_end0
   exact ⟨rfl, hS.done (by simpa using hall)⟩
  ·intro x w1 hC
   have hen := hC.entry (P := Tryz.prog) hst.2.1
   have hm := hC.1
   obtain ⟨p, q, ekey⟩ := hk x hm
   obtain ⟨n, eval⟩ := hv x hm
   have hc := fun W => hdel W x hm
   rw [ekey, eval] at hen hc
   rw [ekey, eval]
   have hgw : w.grownBy w1 (some b) := by obtain ⟨_, _, _, _, _, _, hg⟩ := hC; exact hg
   cases hp : pd x <;> rw [hp] at hc
   ·go_wp2_with (first
     | (go_at_fn g; refine (hc _ ?_).mono ?_; rotate_left; rintro e w2 ⟨rfl, hg2⟩)
     | go_in)
    ·have hC2 := (hC.kept (World.grownBy_alloc w1 _ none)).kept hg2
     have hS2 := hC2.stay hst.2.1 hp
     exact ⟨⟨_, hS2⟩, hS.less hS2 hm hC.2.1⟩
    ·exact hgw.andThen (World.grownBy_alloc w1 _ none) (fun j hj => by cases hj)
   ·go_wp2_with (first
     | (go_at_fn g; refine (hc _ ?_).mono ?_; rotate_left; rintro e w2 ⟨rfl, hg2⟩; have c0 := cell_kept hg2 (i := 0) rfl; have c1 := cell_kept hg2 (i := 1) rfl)
     | (at_delete; refine wpL_delete rfl _ _ 155 rfl K Tryz.underlying155 rfl ((hC.kept (World.grownBy_alloc w1 _ none)).kept hg2) (by omega) F ekey.symm (hkey x hm) hp ?_; intro w3 hS3; go_frame)
     | go_in)
    ·exact ⟨⟨_, hS3⟩, hS.less hS3 hm hC.2.1⟩
    ·exact hgw.andThen (World.grownBy_alloc w1 _ none) (fun j hj => by cases hj)
end Go.Proofs.YtkjdgdkkepmciaaGreat.Cm
namespace Go.Proofs.YtkjdgdkkepmciaaGreat.Cm
open Go Go.RowKit Go.Maps Go.WideElems Go.Sort Go.Shelf
theorem keysK : PrimOk prog glb 275 (keysP 289) := keys_ok ⟨_, Tryz.func275, by kernel_rfl, by kernel_rfl⟩ (T := 156) fun b w =>
 callsIn_wide.1 (AnyZI.keys_in Tryz.keysA Fence.wide 5 trivial rfl (some b) w)
theorem sortsK (m : Nat) : AnyZI.SortsIn Tryz.prog Tryz.sortedA_ren Fence.wide m :=
 ⟨fun blk off cap ss W hH hblk hsz => callsIn_wide.2 (AnyM.slices_Sort_int Tryz.sortA blk off cap ss W hH hblk hsz),
  fun p cap W => callsIn_wide.2 (AnyM.slices_Sort_int_none Tryz.sortA p cap W)⟩
theorem sortedK : PrimOk prog glb 274 (sortedP 289) := sorted_ok ⟨_, Tryz.func274, by kernel_rfl, by kernel_rfl⟩ (T := 3) fun A b clock E ks w hA hb keys hr nd bn bc hs => by
 obtain ⟨D, hown, hp, hsz⟩ := ownsMap_ints (k := 3) Tryz.underlying3 hb keys hr nd bn bc hs
 have hAlt : A < w.heap.size := by
  unfold World.cell? at hA
  split at hA
  ·next hb => exact (Array.getElem?_eq_some_iff.1 hb).1
  ·simp at hA
 have hseq : SeqGives Fence.wide 2 Tryz.prog 289 #[.pointer (some ⟨A, 0, none⟩)] encZ (fun ss => ss.Perm (intKeys D)) (Maps.size D) w :=
  AnyZI.keys_gives (ρ := Tryz.keysA_ren) { Tryz.keysA with } Fence.wide _ trivial rfl (by omega) A b E.size D _ hAlt hA hown
 have mx : Maps.size D ≤ maxLen := by have : (1000000 : Nat) ≤ maxLen := by decide
                                      omega
 have cS := AnyZI.sorted_in Tryz.sortedA Fence.wide 5 trivial trivial trivial trivial rfl (by omega) (sortsK _) (enters_of Tryz.func288 (by kernel_rfl) rfl) 289 #[.pointer (some ⟨A, 0, none⟩)] trivial (enters_of Tryz.func289 (by kernel_rfl) rfl) _ _ mx (by omega) _ hseq
 refine (callsIn_wide.1 cS).mono ?_
 rintro e w' ⟨v, ss, rfl, hS, hrow, hnil, hbl⟩
 have hpk := hS.trans hp
 rw [isort_merge hpk, hpk.length_eq] at hrow
 exact ⟨v, rfl, hrow, hnil.trans ⟨fun e => by subst e; exact List.nil_perm.1 hpk, fun e => by subst e; exact List.perm_nil.1 hpk⟩, hbl⟩
theorem laidOutK : laidOutB Tryz.prog = true := by kernel_rfl
theorem holdKeyed : Keyed Tryz.prog 167 := Keyed.of_law (deep_law_laid laidOutK (m := 2) (by omega) (of_decide_eq_true (by kernel_rfl)) (by kernel_rfl) (by kernel_rfl))
theorem wf_i64 {n : Int} (h : -9223372036854775808 ≤ n ∧ n ≤ 9223372036854775807) : (Lit.int .i64 n).wf = true := by
 show (decide (IntKind.i64.min ≤ n) && decide (n ≤ IntKind.i64.max)) = true
 have e1 : IntKind.i64.min = -9223372036854775808 := by decide
 have e2 : IntKind.i64.max = 9223372036854775807 := by decide
 rw [Bool.and_eq_true, decide_eq_true_eq, decide_eq_true_eq]
 omega
theorem keyLits_i64 {d : Nat} {n : Int} (h : (Lit.int .i64 n).wf = true) : Tryz.prog.keyLits (d + 1) 3 [.int .i64 n] = some [.int .i64 n] := by
 unfold Program.keyLits
 rw [Tryz.underlying3]
 simp [h]
theorem sizeK : ∃ m, Tryz.prog.types.size = m + 1 := ⟨_, (by kernel_rfl : Tryz.prog.types.size = (Tryz.prog.types.size - 1) + 1)⟩
theorem holdKey {p q : Int} (hp : (Lit.int .i64 p).wf = true) (hq : (Lit.int .i64 q).wf = true) : ∃ kl, keyOf Tryz.prog 167 (.agg #[.int .i64 p, .int .i64 q]) = some kl := by
 obtain ⟨m, hm⟩ := sizeK
 have hk : Tryz.prog.keyType 167 = true := by kernel_rfl
 have hc : Tryz.prog.cellsOf 167 = 2 := by kernel_rfl
 have hi : Tryz.prog.cellsOf 3 = 1 := by kernel_rfl
 have hf : (Value.agg #[.int .i64 p, .int .i64 q]).formed Tryz.prog 167 = true := by
  simp [Value.formed, Tryz.underlying167, hc]
 have hl : Tryz.prog.keyLits (Tryz.prog.types.size + 1) 167 [.int .i64 p, .int .i64 q] = some [.int .i64 p, .int .i64 q] := by
  rw [hm]
  unfold Program.keyLits
  rw [Tryz.underlying167]
  simp [hc, hi, keyLits_i64 hp, keyLits_i64 hq]
 refine ⟨.string (keyBytes [.int .i64 p, .int .i64 q]), ?_⟩
 unfold keyOf
 rw [Tryz.underlying167]
 simp only [hk, hf, Bool.and_self, if_true]
 rw [show (Value.agg #[.int .i64 p, .int .i64 q]).cells.toList = [.int .i64 p, .int .i64 q] from rfl, hl]
 rfl
set_option maxHeartbeats 400000 in
theorem leaveC_raw (p q n pid : Int) (bx o : Nat) (W : World) (hx : W.cell? ⟨bx, o, none⟩ = some (.int .i64 pid)) :
 Calls Tryz.prog 77 (#[.agg #[.int .i64 p, .int .i64 q], .int .i64 n] ++ #[.pointer (some ⟨bx, o, none⟩)]) W fun e w' => e = .returned (.bool (p == pid)) ∧ W.grownBy w' none := by
 have hlt : bx < W.heap.size := by
  unfold World.cell? at hx
  split at hx
  ·next hb => exact (Array.getElem?_eq_some_iff.1 hb).1
  ·simp at hx
 have hx2 : ∀ ob, (W.alloc ob).cell? ⟨bx, o, none⟩ = some (.int .i64 pid) := fun ob => (World.cell?_of_block (a := ⟨bx, o, none⟩) ((MapKept.heap_alloc W ob).2 bx hlt)).trans hx
 go_enter Tryz.func77, Tryz.ntmps77
 go_wp2
 go_ret
 exact ⟨rfl, World.grownBy_alloc W _ none⟩
theorem delK : PrimOk prog glb 76 (delP 77) := del_ok ⟨_, Tryz.func76, by kernel_rfl, by kernel_rfl⟩ fun b clock bx o pid E ks w hb hpe hr hnd bn bc hs hx hne => by
 obtain ⟨hkeys, hmem⟩ := hpe.get
 have hkey : ∀ x ∈ E.toList, ∃ kl, keyOf Tryz.prog 167 x.key = some kl := fun x hx => by
  obtain ⟨k, hk, e, _⟩ := hmem x hx
  rw [e]
  exact holdKey (wf_i64 (hr k hk).1) (wf_i64 (hr k hk).2)
 have hmax : (1000000 : Nat) ≤ maxLen := by decide
 have hbl : bx < w.heap.size := by
  unfold World.cell? at hx
  split at hx
  ·next hb => exact (Array.getElem?_eq_some_iff.1 hb).1
  ·simp at hx
 refine del_raw 77 #[.pointer (some ⟨bx, o, none⟩)] b clock E (pdPid pid) w holdKeyed hb ⟨by omega, ⟨bc, bn, ?_⟩, fun x hx => ?_⟩ (fun x hx => ?_) (fun x hx => ?_) (kl := fun x => (keyOf Tryz.prog 167 x.key).getD (.bool false)) (fun x hx => ?_) (enters_of Tryz.func77 (by kernel_rfl) rfl) (fun W x hxm hgr => ?_)
 ·rw [hkeys]
  exact List.Pairwise.map _ (fun a b h e => h (by simpa [Prod.ext_iff] using e)) hnd
 ·obtain ⟨kl, e⟩ := hkey x hx
  exact ⟨(kl, .nil), by simp only [WideElems.rd, e, Option.bind_some, Option.map_some]⟩
 ·obtain ⟨k, hk, e, _⟩ := hmem x hx
  exact ⟨_, _, e⟩
 ·obtain ⟨k, hk, _, n, e⟩ := hmem x hx
  exact ⟨n, e⟩
 ·obtain ⟨kl, e⟩ := hkey x hx
  rw [e]; rfl
 ·obtain ⟨k, hk, e1, n, e2⟩ := hmem x hxm
  have hx' : W.cell? ⟨bx, o, none⟩ = some (.int .i64 pid) := (World.cell?_of_block (a := ⟨bx, o, none⟩) (hgr.block bx hbl (fun e => hne (by simpa using e)))).trans hx
  have ep : pdPid pid x = (k.1 == pid) := by unfold pdPid; rw [e1]; rfl
  rw [e1, e2, ep]
  exact leaveC_raw k.1 k.2 n pid bx o W hx'
def tl : Tab := ((tab0.with 275 (keysP 289)).with 274 (sortedP 289)).with 76 (delP 77)
theorem tl_ok : TabOk prog glb tl := ((tabOk.with keysK).with sortedK).with delK
end Go.Proofs.YtkjdgdkkepmciaaGreat.Cm
namespace Go.Proofs.YtkjdgdkkepmciaaGreat.Cm
open Go Go.RowKit Go.Shelf Go.Lib
theorem info3 : ∃ i0 : TypeInfo, Tryz.prog.info? 3 = some i0 ∧ i0.zero = some (.int .i64 0) ∧ i0.size = 1 ∧ i0.bytes = 8 := by
 have h : (Tryz.prog.info? 3).map (fun i => (i.zero, i.size, i.bytes)) = some (some (.int .i64 0), 1, 8) := by kernel_rfl
 cases hi : Tryz.prog.info? 3 with
 | none => rw [hi] at h; simp at h
 | some i =>
   rw [hi] at h
   simp only [Option.map_some, Option.some.injEq, Prod.mk.injEq] at h
   exact ⟨i, rfl, h.1, h.2.1, h.2.2⟩
theorem growK : PrimOk prog glb 143 growP := by
 obtain ⟨i0, hi, hz, hs, hb⟩ := info3
 refine grow_ok (T := 3) ⟨_, Tryz.func143, by kernel_rfl, by kernel_rfl⟩ (fun w => ?_) fun n w hn hl => ?_
 ·exact Any8.slices_Grow_room Tryz.growA none 0 0 0 w (Nat.le_refl _) (by omega) (by omega) (by omega)
 ·refine (Any8.slices_Grow_grow Tryz.growA i0 (.int .i64 0) hi hz (by omega) none 0 0 n [] w (Nat.le_refl _) (by omega) (by rw [hb]; omega) (by omega) (by simp) (fun _ => rfl) (fun a e => by simp at e)).mono ?_
  rintro e w' ⟨rfl, rfl⟩
  refine ⟨_, _, ?_, rfl, w.drawn + 1, rfl⟩
  have hg := grownCap_ge w (0 + n) 0 (Tryz.growA_ren.t 25)
  simp [Builtin.zeroCells, Value.cells] at hg ⊢
  omega
def tg : Tab := tl.with 143 growP
theorem tg_ok : TabOk prog glb tg := tl_ok.with growK
end Go.Proofs.YtkjdgdkkepmciaaGreat.Cm
