/- Part 12 of the proof: the abstract machine, what the functions compute, and plain laws over that. -/
import Derived.Test.YtonknblidjpfeaaDoorMd11
set_option linter.all false
set_option linter.unusedSimpArgs false
set_option linter.unusedVariables false
set_option linter.unusedSectionVars false
namespace Go.AM.SD
open Go Go.AM
namespace F20
def createS (M : Nat) (p0 p1 : D) : Option D :=
  (bd (F49.s FUEL (p1.at 1).s) fun r3 => (cond (!r3.b) (bd (F37.s FUEL 2) fun r4 => (some (D.tup [p0, r4, (dl false [])]))) (bd (F21.s FUEL p0 (p1.at 1).s) fun r5 => (cond (geI r5.i 0) (bd (F37.s FUEL 4) fun r6 => (some (D.tup [p0, r6, (dl false [])]))) (cond (geI (nI (p0.at 0).elems.length) 12) (bd (F37.s FUEL 10) fun r7 => (some (D.tup [p0, r7, (dl false [])]))) (cond (geI (p0.at 1).i 1099511627776) (bd (F37.s FUEL 10) fun r8 => (some (D.tup [p0, r8, (dl false [])]))) (bd (F91.s FUEL (ad .i64 (p0.at 1).i 1) (p1.at 1).s) fun r9 => (cond (neI (r9.at 1).i 0) (bd (F37.s FUEL (r9.at 1).i) fun r10 => (some (D.tup [p0, r10, (dl false [])]))) (bd (F92.s FUEL (p0.at 0)) fun r11 => (cond (mx (r11.elems.length + 1)) (some (D.tup [(da [(dl (r11.nn || true) (((ap ((r11.elems.drop 0).take r11.elems.length) [(r9.at 0)]).drop 0).take (r11.elems.length + 1))), ((r9.at 0).at 0), (p0.at 2)]), (da [(di 0), ((r9.at 0).at 0), (dS (bs [])), (da [(di 0), (dS (bs [])), (dS (bs [])), (db false), (di 0), (dl false [])]), (dl false [])]), (dl true [(da [(di 0), ((r9.at 0).at 0), ((r9.at 0).at 1), (di 0), (di 0), (da (rp 32 (D.int .u8 0)))])])])) none))))))))))
def changeS (M : Nat) (p0 p1 : D) : Option D :=
  (bd (F21.s FUEL p0 (p1.at 1).s) fun r12 => (cond (ltI r12.i 0) (bd (F37.s FUEL 3) fun r13 => (some (D.tup [p0, r13, (dl false [])]))) (cond (inb r12.i (p0.at 0).elems.length) (bd (F93.s FUEL (ix (p0.at 0).elems (r12.i).toNat) p1 (p0.at 2).i) fun r14 => (cond (neI (r14.at 2).i 0) (bd (F37.s FUEL (r14.at 2).i) fun r15 => (some (D.tup [p0, r15, (dl false [])]))) (bd (F92.s FUEL (p0.at 0)) fun r16 => (cond (eqI (p1.at 0).i 6) (cond ((leI 0 r12.i) && (leI r12.i (ad .i64 r12.i 1)) && (leI (ad .i64 r12.i 1) (nI r16.elems.length)) && (leI (nI r16.elems.length) (nI r16.elems.length)) && (eqN (0 + r16.elems.length) r16.elems.length)) (cond (eqI r12.i (ad .i64 r12.i 1)) (some (D.tup [(da [(dl r16.nn ((r16.elems.drop 0).take r16.elems.length)), (p0.at 1), (p0.at 2)]), (da [(di 0), ((r14.at 1).at 1), (dS (bs [])), (da [(di 0), (dS (bs [])), (dS (bs [])), (db false), (di 0), (dl false [])]), (dl false [])]), (dl true [(r14.at 1)])])) (cond (true && (leI 0 r12.i) && (leN (0 + (r12.i).toNat) r16.elems.length)) (cond ((leI 0 (ad .i64 r12.i 1)) && (leI (ad .i64 r12.i 1) (nI r16.elems.length)) && (leN (0 + r16.elems.length) r16.elems.length)) (cond (leN ((0 + ((r12.i).toNat - 0)) + ((r16.elems.drop (0 + (ad .i64 r12.i 1).toNat)).take (r16.elems.length - (ad .i64 r12.i 1).toNat)).length) r16.elems.length) (cond ((leI 0 (nI (((r12.i).toNat - 0) + ((r16.elems.drop (0 + (ad .i64 r12.i 1).toNat)).take (r16.elems.length - (ad .i64 r12.i 1).toNat)).length))) && (leI (nI (((r12.i).toNat - 0) + ((r16.elems.drop (0 + (ad .i64 r12.i 1).toNat)).take (r16.elems.length - (ad .i64 r12.i 1).toNat)).length)) (nI r16.elems.length)) && (leN (0 + r16.elems.length) (ap (ap (r16.elems.take (0 + ((r12.i).toNat - 0))) ((r16.elems.drop (0 + (ad .i64 r12.i 1).toNat)).take (r16.elems.length - (ad .i64 r12.i 1).toNat))) (r16.elems.drop ((0 + ((r12.i).toNat - 0)) + ((r16.elems.drop (0 + (ad .i64 r12.i 1).toNat)).take (r16.elems.length - (ad .i64 r12.i 1).toNat)).length))).length)) (some (D.tup [(da [(dl r16.nn (((ap (ap ((ap (ap (r16.elems.take (0 + ((r12.i).toNat - 0))) ((r16.elems.drop (0 + (ad .i64 r12.i 1).toNat)).take (r16.elems.length - (ad .i64 r12.i 1).toNat))) (r16.elems.drop ((0 + ((r12.i).toNat - 0)) + ((r16.elems.drop (0 + (ad .i64 r12.i 1).toNat)).take (r16.elems.length - (ad .i64 r12.i 1).toNat)).length))).take (0 + (((r12.i).toNat - 0) + ((r16.elems.drop (0 + (ad .i64 r12.i 1).toNat)).take (r16.elems.length - (ad .i64 r12.i 1).toNat)).length))) (rp (r16.elems.length - (((r12.i).toNat - 0) + ((r16.elems.drop (0 + (ad .i64 r12.i 1).toNat)).take (r16.elems.length - (ad .i64 r12.i 1).toNat)).length)) (da [(di 0), (dS (bs [])), (dS (bs [])), (db false), (di 0), (dl false [])]))) ((ap (ap (r16.elems.take (0 + ((r12.i).toNat - 0))) ((r16.elems.drop (0 + (ad .i64 r12.i 1).toNat)).take (r16.elems.length - (ad .i64 r12.i 1).toNat))) (r16.elems.drop ((0 + ((r12.i).toNat - 0)) + ((r16.elems.drop (0 + (ad .i64 r12.i 1).toNat)).take (r16.elems.length - (ad .i64 r12.i 1).toNat)).length))).drop ((0 + (((r12.i).toNat - 0) + ((r16.elems.drop (0 + (ad .i64 r12.i 1).toNat)).take (r16.elems.length - (ad .i64 r12.i 1).toNat)).length)) + (r16.elems.length - (((r12.i).toNat - 0) + ((r16.elems.drop (0 + (ad .i64 r12.i 1).toNat)).take (r16.elems.length - (ad .i64 r12.i 1).toNat)).length))))).drop 0).take (((r12.i).toNat - 0) + ((r16.elems.drop (0 + (ad .i64 r12.i 1).toNat)).take (r16.elems.length - (ad .i64 r12.i 1).toNat)).length))), (p0.at 1), (p0.at 2)]), (da [(di 0), ((r14.at 1).at 1), (dS (bs [])), (da [(di 0), (dS (bs [])), (dS (bs [])), (db false), (di 0), (dl false [])]), (dl false [])]), (dl true [(r14.at 1)])])) none) none) none) none)) none) (cond (inb r12.i r16.elems.length) (some (D.tup [(da [(dl r16.nn (((r16.elems.set (0 + (r12.i).toNat) (r14.at 0)).drop 0).take r16.elems.length)), (p0.at 1), (p0.at 2)]), (da [(di 0), (di (nI ((r14.at 0).at 2).s.size)), (dS (bs [])), (da [(di 0), (dS (bs [])), (dS (bs [])), (db false), (di 0), (dl false [])]), (dl false [])]), (dl true [(r14.at 1)])])) none))))) none)))
def sweepS (M : Nat) (p0 p1 : D) : Option D :=
  (bd (F24.s FUEL (p0.at 0) (p0.at 2).i) fun r43 => (goS (st70_3 M) M ⟨0, r43.elems.length, 0, r43.elems.length, (nI r43.elems.length), 0, p0, p1, false, [], 0, 0, 0, 0, (bs []), 0, (bs []), (bs []), false, 0, false, [], false, [], p0, p1, 0, 0, 0, 0, (bs []), 0, (bs []), (bs []), false, 0, false, [], false, [], r43.nn, r43.elems, false, []⟩ fun x => match x with | .e0 n44 n45 n46 n47 i48 i49 d50 d51 b52 l53 i54 i55 i56 i57 s58 i59 s60 s61 b62 i63 b64 l65 b66 l67 d68 d69 n70 n71 i72 i73 s74 i75 s76 s77 b78 i79 b80 l81 b82 l83 b84 l85 b86 l87 => (bd (F92.s FUEL (d68.at 0)) fun r88 => (goS (st38_2 M) M ⟨0, r88.elems.length, (nI r88.elems.length), 0, d50, d51, b52, l53, i54, i55, i56, i57, s58, i59, s60, s61, b62, i63, b64, l65, b66, l67, d68, d69, n70, n71, i72, i73, s74, i75, s76, s77, b78, i79, b80, l81, b82, l83, b84, l85, b86, l87, r88.nn, r88.elems⟩ fun x => match x with | .e0 n89 n90 i91 i92 d93 d94 b95 l96 i97 i98 i99 i100 s101 i102 s103 s104 b105 i106 b107 l108 b109 l110 d111 d112 n113 n114 i115 i116 s117 i118 s119 s120 b121 i122 b123 l124 b125 l126 b127 l128 b129 l130 b131 l132 r133 => (cond (eqI i92 (-1)) (some (D.tup [(da [(dl b131 ((l132.drop 0).take r88.elems.length)), (d111.at 1), (d111.at 2)]), (da [(di 0), (di (nI n45)), (dS (bs [])), (da [(di 0), (dS (bs [])), (dS (bs [])), (db false), (di 0), (dl false [])]), (dl false [])]), (dl b129 ((l130.drop n113).take n114))])) (goS (st96_5 M) M ⟨0, r88.elems.length, i92, (ad .i64 i92 1), d93, d94, b95, l96, i97, i98, i99, i100, s101, i102, s103, s104, b105, i106, b107, l108, b109, l110, d111, d112, n113, n114, i115, i116, s117, i118, s119, s120, b121, i122, b123, l124, b125, l126, b127, l128, b129, l130, b131, l132, (ix l132 (n89 + i92.toNat))⟩ fun x => match x with | .e0 n134 n135 i136 i137 d138 d139 b140 l141 i142 i143 i144 i145 s146 i147 s148 s149 b150 i151 b152 l153 b154 l155 d156 d157 n158 n159 i160 i161 s162 i163 s164 s165 b166 i167 b168 l169 b170 l171 b172 l173 b174 l175 b176 l177 d178 => (cond ((leI 0 i136) && (leI i136 (nI n135)) && (leN (n134 + n135) l177.length)) (cond (true && (leI 0 i136) && (leN (n134 + i136.toNat) (ap (ap (l177.take (n134 + i136.toNat)) (rp (n135 - i136.toNat) (da [(di 0), (dS (bs [])), (dS (bs [])), (db false), (di 0), (dl false [])]))) (l177.drop ((n134 + i136.toNat) + (n135 - i136.toNat)))).length)) (some (D.tup [(da [(dl b176 (((ap (ap (l177.take (n134 + i136.toNat)) (rp (n135 - i136.toNat) (da [(di 0), (dS (bs [])), (dS (bs [])), (db false), (di 0), (dl false [])]))) (l177.drop ((n134 + i136.toNat) + (n135 - i136.toNat)))).drop (n134 + 0)).take (i136.toNat - 0))), (d156.at 1), (d156.at 2)]), (da [(di 0), (di (nI n45)), (dS (bs [])), (da [(di 0), (dS (bs [])), (dS (bs [])), (db false), (di 0), (dl false [])]), (dl false [])]), (dl b174 ((l175.drop n158).take n159))])) none) none))) | .e1 n89 n90 i91 i92 d93 d94 b95 l96 i97 i98 i99 i100 s101 i102 s103 s104 b105 i106 b107 l108 b109 l110 d111 d112 n113 n114 i115 i116 s117 i118 s119 s120 b121 i122 b123 l124 b125 l126 b127 l128 b129 l130 b131 l132 => (some (D.tup [(da [(dl b131 ((l132.drop 0).take r88.elems.length)), (d111.at 1), (d111.at 2)]), (da [(di 0), (di (nI n45)), (dS (bs [])), (da [(di 0), (dS (bs [])), (dS (bs [])), (db false), (di 0), (dl false [])]), (dl false [])]), (dl b129 ((l130.drop n113).take n114))]))))))
def listS (M : Nat) (p0 p1 : D) : Option D :=
  (goS (st73_3 M) M ⟨0, 0, (p0.at 0), (nI (p0.at 0).elems.length), 0, p0, p1, false, [], 0, 0, 0, 0, (bs []), 0, (bs []), (bs []), false, 0, false, [], false, [], p0, p1, false, [], 0, 0, (bs []), 0, (bs []), (bs []), false, 0, false, [], false, [], false, []⟩ fun x => match x with | .e0 n186 n187 d188 i189 i190 d191 d192 b193 l194 i195 i196 i197 i198 s199 i200 s201 s202 b203 i204 b205 l206 b207 l208 d209 d210 b211 l212 i213 i214 s215 i216 s217 s218 b219 i220 b221 l222 b223 l224 b225 l226 => (goS (st108_2 M) M ⟨n186, n187, (nI n187), 20, 0, 20, d191, d192, b193, l194, i195, i196, i197, i198, s199, i200, s201, s202, b203, i204, b205, l206, b207, l208, d209, d210, b211, l212, i213, i214, s215, i216, s217, s218, b219, i220, b221, l222, b223, l224, b225, l226⟩ fun x => match x with | .e0 n227 n228 i229 i230 i231 i232 d233 d234 b235 l236 i237 i238 i239 i240 s241 i242 s243 s244 b245 i246 b247 l248 b249 l250 d251 d252 b253 l254 i255 i256 s257 i258 s259 s260 b261 i262 b263 l264 b265 l266 b267 l268 => (goS (st113_1 M) M ⟨n227, n228, i231, i229, (ad .i64 i231 1), d233, d234, b235, l236, i237, i238, i239, i240, s241, i242, s243, s244, b245, i246, b247, l248, b249, l250, d251, d252, b253, l254, i255, i256, s257, i258, s259, s260, b261, i262, b263, l264, b265, l266, b267, l268⟩ fun x => match x with | .e0 n269 n270 i271 i272 i273 d274 d275 b276 l277 i278 i279 i280 i281 s282 i283 s284 s285 b286 i287 b288 l289 b290 l291 d292 d293 b294 l295 i296 i297 s298 i299 s300 s301 b302 i303 b304 l305 b306 l307 b308 l309 => (goS (st108_7 M) M ⟨n227, n228, i229, i230, d274, d275, b276, l277, i278, i279, i280, i281, s282, i283, s284, s285, b286, i287, b288, l289, b290, l291, d292, d293, b294, l295, i296, i297, s298, i299, s300, s301, b302, i303, b304, l305, b306, l307, b308, l309⟩ fun x => match x with | .e0 n353 n354 i355 i356 d357 d358 b359 l360 i361 i362 i363 i364 s365 i366 s367 s368 b369 i370 b371 l372 b373 l374 d375 d376 b377 l378 i379 i380 s381 i382 s383 s384 b385 i386 b387 l388 b389 l390 b391 l392 => (some (D.tup [d375, (da [(di 0), (di 0), (dS (bs [])), (da [(di 0), (dS (bs [])), (dS (bs [])), (db false), (di 0), (dl false [])]), (dl b391 ((l392.drop n186).take n187))]), (dl b377 l378)]))))))
end F20
end Go.AM.SD
namespace Go.AM.SD
open Go Go.AM
def Res.enc (r : Res) : D := .tup [r.st.enc, r.an.enc, dl r.nn (r.evs.map Ev.enc)]
theorem stay_enc (s : St) (e : Int) : (bd (F37.s FUEL e) fun r => some (D.tup [s.enc, r, dl false []])) = some (stay s e).enc := by
  rw [wrong_spec, bd_some]; rfl
theorem change_spec (s : St) (o : Mo) (hs : StOk s) (ho : MoOk o) : F20.changeS FUEL s.enc o.enc = some (changeM shaL s o).enc := by
  have hl := hs.len
  unfold F20.changeS changeM
  have hn : (o.enc.at 1).s = o.name := rfl
  have h0 : s.enc.at 0 = dl s.nn (s.files.map Fl.enc) := rfl
  have hfl : (s.enc.at 2).i = s.floor := rfl
  rw [hn, h0, hfl]
  refine bdS (find_specM s o.name (by omega)) ?_
  cases hx : findM s o.name with
  | none =>
    dsimp only
    rw [findI_none hx]
    exact ct (by simp) (stay_enc s 3)
  | some i =>
    obtain ⟨hi, hnm⟩ := findM_is hx
    dsimp only
    rw [List.getElem?_eq_getElem hi, findI_some hx]
    dsimp only
    have hf := hs.files _ (List.getElem_mem hi)
    have hie : ix (s.files.map Fl.enc) ((di (i : Int)).i).toNat = s.files[i].enc := by simp [ix_map hi]
    refine cf (by simp) (ct (by simp; omega) ?_)
    simp only [elems_slice, hie]
    refine bdS (fileDo_spec s.files[i] o s.floor s.last hf ho) ?_
    generalize hR : fileDo shaL s.files[i] o s.floor = R
    by_cases h1 : R.2.2 = 0
    · rw [if_pos h1]
      refine cf (by show neI R.2.2 0 = false; simpa using h1) (bdS (clone_files s.nn _ (fun h => by rw [hs.nil h]; rfl) (by simp; omega)) ?_)
      by_cases h6 : o.kind = 6
      · rw [if_pos h6]
        refine ct (by show eqI o.kind 6 = true; simpa using h6) ?_
        have had : ad .i64 (i : Int) 1 = ((i + 1 : Nat) : Int) := by rw [ad64 (by omega) (by omega)]; rfl
        simp only [i_int, elems_slice, nn_slice, had, Int.toNat_natCast, Nat.sub_zero, Nat.zero_add, List.length_map]
        refine ct ?_ (cf (by simp; omega) (ct ?_ (ct ?_ (ct ?_ (ct ?_ ?_)))))
        · simp; omega
        · simp; omega
        · simp; omega
        · simp; omega
        · simp [ap]; omega
        · rw [del_row (i := i) (by simpa using hi) rfl (by rw [List.take_of_length_le]; simp) rfl rfl, eraseIdx_map]
          rfl
      · rw [if_neg h6]
        refine cf (by show eqI o.kind 6 = false; simpa using h6) (ct (by simp; omega) ?_)
        have e1 : (((s.files.map Fl.enc).set (0 + ((di (i : Int)).i).toNat) R.1.enc).drop 0).take (s.files.map Fl.enc).length = (s.files.set i R.1).map Fl.enc := by
          have : 0 + ((di (i : Int)).i).toNat = i := by simp
          rw [this]
          exact row_set (by simp)
        exact congrArg (fun l => some (D.tup [da [dl s.nn l, di s.last, di s.floor], (An.enc ⟨0, (R.1.data.size : Int), bs [], zeroF, false, []⟩), dl true [R.2.1.enc]])) e1
    · rw [if_neg h1]
      exact ct (by show neI R.2.2 0 = true; simpa using h1) (stay_enc s R.2.2)
end Go.AM.SD
namespace Go.AM.SD
open Go Go.AM
def x70_3e0 (s : F20.S70_3) : F20.X70_3 := .e0 s.n44 s.n45 s.n46 s.n47 s.i48 s.i49 s.d50 s.d51 s.b52 s.l53 s.i54 s.i55 s.i56 s.i57 s.s58 s.i59 s.s60 s.s61 s.b62 s.i63 s.b64 s.l65 s.b66 s.l67 s.d68 s.d69 s.n70 s.n71 s.i72 s.i73 s.s74 s.i75 s.s76 s.s77 s.b78 s.i79 s.b80 s.l81 s.b82 s.l83 s.b84 s.l85 s.b86 s.l87
def x38_2e0 (s : F20.S38_2) (r133 : D) : F20.X38_2 := .e0 s.n89 s.n90 s.i91 s.i92 s.d93 s.d94 s.b95 s.l96 s.i97 s.i98 s.i99 s.i100 s.s101 s.i102 s.s103 s.s104 s.b105 s.i106 s.b107 s.l108 s.b109 s.l110 s.d111 s.d112 s.n113 s.n114 s.i115 s.i116 s.s117 s.i118 s.s119 s.s120 s.b121 s.i122 s.b123 s.l124 s.b125 s.l126 s.b127 s.l128 s.b129 s.l130 s.b131 s.l132 r133
def x38_2e1 (s : F20.S38_2) : F20.X38_2 := .e1 s.n89 s.n90 s.i91 s.i92 s.d93 s.d94 s.b95 s.l96 s.i97 s.i98 s.i99 s.i100 s.s101 s.i102 s.s103 s.s104 s.b105 s.i106 s.b107 s.l108 s.b109 s.l110 s.d111 s.d112 s.n113 s.n114 s.i115 s.i116 s.s117 s.i118 s.s119 s.s120 s.b121 s.i122 s.b123 s.l124 s.b125 s.l126 s.b127 s.l128 s.b129 s.l130 s.b131 s.l132
def x96_5e0 (s : F20.S96_5) : F20.X96_5 := .e0 s.n134 s.n135 s.i136 s.i137 s.d138 s.d139 s.b140 s.l141 s.i142 s.i143 s.i144 s.i145 s.s146 s.i147 s.s148 s.s149 s.b150 s.i151 s.b152 s.l153 s.b154 s.l155 s.d156 s.d157 s.n158 s.n159 s.i160 s.i161 s.s162 s.i163 s.s164 s.s165 s.b166 s.i167 s.b168 s.l169 s.b170 s.l171 s.b172 s.l173 s.b174 s.l175 s.b176 s.l177 s.d178
def x73_3e0 (s : F20.S73_3) : F20.X73_3 := .e0 s.n186 s.n187 s.d188 s.i189 s.i190 s.d191 s.d192 s.b193 s.l194 s.i195 s.i196 s.i197 s.i198 s.s199 s.i200 s.s201 s.s202 s.b203 s.i204 s.b205 s.l206 s.b207 s.l208 s.d209 s.d210 s.b211 s.l212 s.i213 s.i214 s.s215 s.i216 s.s217 s.s218 s.b219 s.i220 s.b221 s.l222 s.b223 s.l224 s.b225 s.l226
def x108_2e0 (s : F20.S108_2) : F20.X108_2 := .e0 s.n227 s.n228 s.i229 s.i230 s.i231 s.i232 s.d233 s.d234 s.b235 s.l236 s.i237 s.i238 s.i239 s.i240 s.s241 s.i242 s.s243 s.s244 s.b245 s.i246 s.b247 s.l248 s.b249 s.l250 s.d251 s.d252 s.b253 s.l254 s.i255 s.i256 s.s257 s.i258 s.s259 s.s260 s.b261 s.i262 s.b263 s.l264 s.b265 s.l266 s.b267 s.l268
def x113_1e0 (s : F20.S113_1) : F20.X113_1 := .e0 s.n269 s.n270 s.i271 s.i272 s.i273 s.d274 s.d275 s.b276 s.l277 s.i278 s.i279 s.i280 s.i281 s.s282 s.i283 s.s284 s.s285 s.b286 s.i287 s.b288 s.l289 s.b290 s.l291 s.d292 s.d293 s.b294 s.l295 s.i296 s.i297 s.s298 s.i299 s.s300 s.s301 s.b302 s.i303 s.b304 s.l305 s.b306 s.l307 s.b308 s.l309
def x113_4e0 (s : F20.S113_4) (r352 : D) : F20.X113_4 := .e0 s.n310 s.n311 s.i312 s.i313 s.i314 s.i315 s.d316 s.d317 s.b318 s.l319 s.i320 s.i321 s.i322 s.i323 s.s324 s.i325 s.s326 s.s327 s.b328 s.i329 s.b330 s.l331 s.b332 s.l333 s.d334 s.d335 s.b336 s.l337 s.i338 s.i339 s.s340 s.i341 s.s342 s.s343 s.b344 s.i345 s.b346 s.l347 s.b348 s.l349 s.b350 s.l351 r352
def x113_4e1 (s : F20.S113_4) : F20.X113_4 := .e1 s.n310 s.n311 s.i312 s.i313 s.i314 s.i315 s.d316 s.d317 s.b318 s.l319 s.i320 s.i321 s.i322 s.i323 s.s324 s.i325 s.s326 s.s327 s.b328 s.i329 s.b330 s.l331 s.b332 s.l333 s.d334 s.d335 s.b336 s.l337 s.i338 s.i339 s.s340 s.i341 s.s342 s.s343 s.b344 s.i345 s.b346 s.l347 s.b348 s.l349 s.b350 s.l351
def x108_7e0 (s : F20.S108_7) : F20.X108_7 := .e0 s.n353 s.n354 s.i355 s.i356 s.d357 s.d358 s.b359 s.l360 s.i361 s.i362 s.i363 s.i364 s.s365 s.i366 s.s367 s.s368 s.b369 s.i370 s.b371 s.l372 s.b373 s.l374 s.d375 s.d376 s.b377 s.l378 s.i379 s.i380 s.s381 s.i382 s.s383 s.s384 s.b385 s.i386 s.b387 s.l388 s.b389 s.l390 s.b391 s.l392
theorem due_spec (nn : Bool) (l : List Fl) (floor : Int) (hl : l.length ≤ 1048576) : F24.s FUEL (dl nn (l.map Fl.enc)) floor = some (dl (!(dueL l floor).isEmpty) ((dueL l floor).map di)) := by
  unfold F24.s
  refine goS_rule (fun t : F24.S75_1 => ∃ k : Nat, t = ⟨dl nn (l.map Fl.enc), nI l.length, (k : Int), 0, (dueL (l.take k) floor).length, dl nn (l.map Fl.enc), floor, !(dueL (l.take k) floor).isEmpty, (dueL (l.take k) floor).map di⟩ ∧ k ≤ l.length) (fun t => l.length - t.i3.toNat) (fun o => o = some (dl (!(dueL l floor).isEmpty) ((dueL l floor).map di))) ?_ _ _ ⟨0, by simp [dueL], by omega⟩ (by simp [FUEL]; omega)
  rintro _ rec ⟨k, rfl, hk⟩ hrec
  have hdl : (dueL (l.take k) floor).length ≤ k := by
    unfold dueL
    rw [List.length_map]
    exact Nat.le_trans (List.length_filter_le _ _) (by simp; omega)
  simp only [F24.st75_1]
  by_cases h1 : k < l.length
  · have hadd : ad .i64 (k : Int) 1 = ((k + 1 : Nat) : Int) := by rw [ad64 (by omega) (by omega)]; rfl
    have htk : l.take (k + 1) = l.take k ++ [l[k]] := by rw [List.take_succ_eq_append_getElem h1]
    refine ct (by simp; omega) (ct (by simp; omega) ?_)
    simp only [elems_slice, Int.toNat_natCast, ix_map h1]
    refine bdS (may_spec l[k] floor) ?_
    by_cases h2 : mayN l[k] floor = 0
    · have hd : dueL (l.take (k + 1)) floor = dueL (l.take k) floor ++ [l[k].id] := by
        unfold dueL; rw [htk, List.filter_append, List.map_append]; congr 1; simp [h2]
      refine ct (by show eqI (mayN l[k] floor) 0 = true; simpa using h2) (ct (by simp; omega) ?_)
      rw [hadd]
      refine hrec _ ⟨k + 1, ?_, by omega⟩ (by dsimp only; omega)
      rw [hd, F24.S75_1.mk.injEq]
      refine ⟨rfl, rfl, rfl, rfl, by simp, rfl, rfl, by simp, ?_⟩
      rw [List.map_append, ap, List.drop_zero, List.take_of_length_le (by simp)]
      rfl
    · have hd : dueL (l.take (k + 1)) floor = dueL (l.take k) floor := by
        unfold dueL; rw [htk, List.filter_append]; simp [h2]
      refine cf (by show eqI (mayN l[k] floor) 0 = false; simpa using h2) ?_
      rw [hadd]
      refine hrec _ ⟨k + 1, ?_, by omega⟩ (by dsimp only; omega)
      rw [hd]
  · refine cf (by simp; omega) ?_
    have : l.take k = l := List.take_of_length_le (by omega)
    rw [this]
    exact ct (by simp) rfl
theorem loop70 (ids : List Int) (hl : ids.length ≤ 1048576) (s0 : F20.S70_3) (h46 : s0.n46 = 0) (h47 : s0.n47 = ids.length) (h48 : s0.i48 = (ids.length : Int)) (h85 : s0.l85 = ids.map di) (h49 : s0.i49 = 0) (h70 : s0.n70 = 0) (h71 : s0.n71 = 0) (h86 : s0.b86 = false) (h87 : s0.l87 = [])
    (K : F20.X70_3 → Option D) (R : Option D) (hK : K (x70_3e0 { s0 with i49 := (ids.length : Int), n71 := ids.length, b86 := !ids.isEmpty, l87 := (ids.map delEv).map Ev.enc }) = R) : goS (F20.st70_3 FUEL) FUEL s0 K = R := by
  refine goS_rule (fun t : F20.S70_3 => ∃ k : Nat, t = { s0 with i49 := (k : Int), n71 := k, b86 := !(ids.take k).isEmpty, l87 := ((ids.take k).map delEv).map Ev.enc } ∧ k ≤ ids.length) (fun t => ids.length - t.i49.toNat) (fun o => o = R) ?_ _ _ ⟨0, ?_, by omega⟩ (by rw [h49]; simp [FUEL]; omega)
  · rintro _ rec ⟨k, rfl, hk⟩ hrec
    simp only [F20.st70_3, h46, h47, h48, h85, h70]
    by_cases h1 : k < ids.length
    · have hadd : ad .i64 (k : Int) 1 = ((k + 1 : Nat) : Int) := by rw [ad64 (by omega) (by omega)]; rfl
      have htk : ids.take (k + 1) = ids.take k ++ [ids[k]] := by rw [List.take_succ_eq_append_getElem h1]
      refine ct (by simp; omega) (ct (by simp; omega) (ct (by simp; omega) ?_))
      rw [hadd]
      refine hrec _ ⟨k + 1, ?_, by omega⟩ ?_
      rotate_left
      · simp; omega
      rw [F20.S70_3.mk.injEq]
      simp only [h46, h47, h48, h85, h70, true_and, and_true]
      refine ⟨?_, ?_⟩
      · rw [htk]; cases ids.take k <;> rfl
      · rw [htk]
        simp only [List.map_append, List.map_cons, List.map_nil, ap, List.drop_zero]
        rw [List.take_of_length_le (by simp; omega)]
        congr 1
        have e : ix (ids.map di) (0 + (Int.toNat (k : Int))) = di ids[k] := by rw [ix_map (by simpa using h1)]; simp
        rw [e]
        rfl
    · have hkk : k = ids.length := by omega
      refine cf (by simp; omega) ?_
      subst hkk
      rw [List.take_length]
      unfold x70_3e0 at hK
      simp only [h46, h47, h48, h85, h70] at hK ⊢
      exact hK
  · cases s0
    simp only at h49 h71 h86 h87
    subst h49 h71 h86 h87
    simp
def dueB (floor : Int) (f : Fl) : Bool := decide (mayN f floor = 0)
theorem loop38 (fs : List Fl) (floor : Int) (hl : fs.length ≤ 1048576) (s0 : F20.S38_2) (h89 : s0.n89 = 0) (h90 : s0.n90 = fs.length) (h91 : s0.i91 = (fs.length : Int)) (h92 : s0.i92 = 0) (h132 : s0.l132 = fs.map Fl.enc) (h111 : (s0.d111.at 2).i = floor)
    (K : F20.X38_2 → Option D) (R : Option D) (hK0 : ∀ i, fs.findIdx? (dueB floor) = some i → K (x38_2e0 { s0 with i92 := (i : Int) } (di 0)) = R) (hK1 : fs.findIdx? (dueB floor) = none → K (x38_2e1 { s0 with i92 := (fs.length : Int) }) = R) : goS (F20.st38_2 FUEL) FUEL s0 K = R := by
  refine goS_rule (fun t : F20.S38_2 => ∃ k : Nat, t = { s0 with i92 := (k : Int) } ∧ k ≤ fs.length ∧ ∀ i (h : i < fs.length), i < k → dueB floor fs[i] = false) (fun t => fs.length - t.i92.toNat) (fun o => o = R) ?_ _ _ ⟨0, by cases s0; simp only at h92; subst h92; rfl, by omega, by omega⟩ (by rw [h92]; simp [FUEL]; omega)
  rintro _ rec ⟨k, rfl, hk, hlt⟩ hrec
  simp only [F20.st38_2, h89, h90, h91, h132, h111]
  by_cases h1 : k < fs.length
  · have hadd : ad .i64 (k : Int) 1 = ((k + 1 : Nat) : Int) := by rw [ad64 (by omega) (by omega)]; rfl
    have e : ix (fs.map Fl.enc) (0 + (Int.toNat (k : Int))) = fs[k].enc := by rw [Nat.zero_add, Int.toNat_natCast, ix_map h1]
    refine ct (by simp; omega) (ct (by simp; omega) ?_)
    rw [e]
    refine bdS (may_spec fs[k] floor) ?_
    by_cases h2 : mayN fs[k] floor = 0
    · refine ct (by show eqI (mayN fs[k] floor) 0 = true; simpa using h2) ?_
      have := hK0 k (findIdx_some_of h1 hlt (by simpa [dueB] using h2))
      unfold x38_2e0 at this
      simp only [h89, h90, h91, h132, h2] at this ⊢
      exact this
    · refine cf (by show eqI (mayN fs[k] floor) 0 = false; simpa using h2) ?_
      rw [hadd]
      refine hrec _ ⟨k + 1, ?_, by omega, ?_⟩ ?_
      rotate_right
      · simp; omega
      · simp only [h89, h90, h91, h132]
      · intro i hi hik
        by_cases hik' : i = k
        · subst hik'; simpa [dueB] using h2
        · exact hlt i hi (by omega)
  · have hkk : k = fs.length := by omega
    refine cf (by simp; omega) ?_
    subst hkk
    have := hK1 (findIdx_none_of (fun i hi => hlt i hi (by omega)))
    unfold x38_2e1 at this
    simp only [h89, h90, h91, h132] at this ⊢
    exact this
def keptL (floor : Int) (l : List Fl) : List Fl := l.filter fun f => !dueB floor f
theorem loop96 (fs : List Fl) (floor : Int) (hl : fs.length ≤ 1048576) (s0 : F20.S96_5) (i : Nat) (hi : i < fs.length) (h134 : s0.n134 = 0) (h135 : s0.n135 = fs.length) (h136 : s0.i136 = (i : Int)) (h137 : s0.i137 = ((i + 1 : Nat) : Int)) (h177 : s0.l177 = fs.map Fl.enc) (h156 : (s0.d156.at 2).i = floor)
    (hfirst : ∀ j (h : j < fs.length), j < i → dueB floor fs[j] = false) (hdue : dueB floor fs[i] = true)
    (K : F20.X96_5 → Option D) (R : Option D) (hK : ∀ L : List D, L.length = fs.length → L.take (keptL floor fs).length = (keptL floor fs).map Fl.enc → K (x96_5e0 { s0 with i136 := ((keptL floor fs).length : Int), i137 := (fs.length : Int), l177 := L }) = R) : goS (F20.st96_5 FUEL) FUEL s0 K = R := by
  have htake0 : keptL floor (fs.take (i + 1)) = fs.take i := by
    rw [List.take_succ_eq_append_getElem hi]
    unfold keptL
    rw [List.filter_append, List.filter_eq_self.2, List.filter_cons, if_neg (by simp [hdue])]
    · simp
    · intro f hf
      obtain ⟨j, hj, rfl⟩ := List.getElem_of_mem hf
      simp only [List.length_take] at hj
      have := hfirst j (by omega) (by omega)
      simp [this]
  refine goS_rule (fun t : F20.S96_5 => ∃ (k : Nat) (L : List D), t = { s0 with i136 := ((keptL floor (fs.take k)).length : Int), i137 := (k : Int), l177 := L } ∧ k ≤ fs.length ∧ (keptL floor (fs.take k)).length < k ∧ L.length = fs.length ∧ L.take (keptL floor (fs.take k)).length = (keptL floor (fs.take k)).map Fl.enc ∧ L.drop k = (fs.map Fl.enc).drop k) (fun t => fs.length - t.i137.toNat) (fun o => o = R) ?_ _ _ ⟨i + 1, fs.map Fl.enc, ?_, by omega, ?_, by simp, ?_, rfl⟩ (by rw [h137]; simp [FUEL]; omega)
  · rintro _ rec ⟨k, L, rfl, hk, hw, hL, ht, hd⟩ hrec
    simp only [F20.st96_5, h134, h135, h156]
    by_cases h1 : k < fs.length
    · have hadd : ad .i64 (k : Int) 1 = ((k + 1 : Nat) : Int) := by rw [ad64 (by omega) (by omega)]; rfl
      have hget : L[k]'(by omega) = fs[k].enc := by
        have := congrArg (fun l : List D => l[0]?) hd
        simp only [List.getElem?_drop, Nat.add_zero, List.getElem?_map] at this
        rw [List.getElem?_eq_getElem (by omega), List.getElem?_eq_getElem h1] at this
        simpa using this
      have e : ix L (0 + (Int.toNat (k : Int))) = fs[k].enc := by rw [Nat.zero_add, Int.toNat_natCast, ix_eq (by omega), hget]
      have htk : fs.take (k + 1) = fs.take k ++ [fs[k]] := by rw [List.take_succ_eq_append_getElem h1]
      have hd' : L.drop (k + 1) = (fs.map Fl.enc).drop (k + 1) := by
        rw [← List.drop_drop, ← List.drop_drop, hd]
      refine ct (by simp; omega) (ct (by simp; omega) ?_)
      rw [e]
      refine bdS (may_spec fs[k] floor) ?_
      by_cases h2 : mayN fs[k] floor = 0
      · have hkt : keptL floor (fs.take (k + 1)) = keptL floor (fs.take k) := by
          unfold keptL; rw [htk, List.filter_append]; simp [dueB, h2]
        refine cf (by show (!eqI (mayN fs[k] floor) 0) = false; simpa using h2) ?_
        rw [hadd]
        refine hrec _ ⟨k + 1, L, ?_, by omega, by rw [hkt]; omega, hL, by rw [hkt]; exact ht, hd'⟩ ?_
        rotate_left
        · simp; omega
        rw [hkt]
        simp only [h134, h135]
      · have hkt : keptL floor (fs.take (k + 1)) = keptL floor (fs.take k) ++ [fs[k]] := by
          unfold keptL; rw [htk, List.filter_append]; simp [dueB, h2]
        have hadd2 : ad .i64 ((keptL floor (fs.take k)).length : Int) 1 = (((keptL floor (fs.take k)).length + 1 : Nat) : Int) := by rw [ad64 (by omega) (by omega)]; rfl
        refine ct (by show (!eqI (mayN fs[k] floor) 0) = true; simpa using h2) (ct (by simp; omega) ?_)
        rw [hadd, hadd2]
        refine hrec _ ⟨k + 1, L.set (keptL floor (fs.take k)).length fs[k].enc, ?_, by omega, by rw [hkt]; simp; omega, by simpa using hL, ?_, ?_⟩ ?_
        rotate_right
        · simp; omega
        · rw [hkt]
          simp only [h134, h135, List.length_append, List.length_cons, List.length_nil, Nat.zero_add, Int.toNat_natCast]
        · rw [hkt]
          simp only [List.length_append, List.length_cons, List.length_nil, Nat.zero_add, List.map_append, List.map_cons, List.map_nil]
          rw [List.take_succ_eq_append_getElem (by simp; omega), List.take_set_of_le (Nat.le_refl _), ht]
          simp
        · rw [List.drop_set_of_lt (by omega), hd']
    · have hkk : k = fs.length := by omega
      subst hkk
      refine cf (by simp) ?_
      rw [List.take_length] at hw ht ⊢
      have := hK L hL ht
      unfold x96_5e0 at this
      simp only [h134, h135] at this ⊢
      exact this
  · cases s0
    simp only at h136 h137 h177
    subst h136 h137 h177
    rw [htake0]
    simp
    omega
  · rw [htake0]; simp; omega
  · rw [htake0]
    rw [List.map_take]
    congr 1
    simp; omega
end Go.AM.SD
namespace Go.AM.SD
open Go Go.AM
theorem sweep_spec (s : St) (o : Mo) (hs : StOk s) : F20.sweepS FUEL s.enc o.enc = some (sweepM s).enc := by
  have hl := hs.len
  have hdl : (dueL s.files s.floor).length ≤ 12 := by
    unfold dueL
    rw [List.length_map]
    exact Nat.le_trans (List.length_filter_le _ _) hl
  unfold F20.sweepS
  have h0 : s.enc.at 0 = dl s.nn (s.files.map Fl.enc) := rfl
  have hfl : (s.enc.at 2).i = s.floor := rfl
  rw [h0, hfl]
  refine bdS (due_spec s.nn s.files s.floor (by omega)) ?_
  refine loop70 (dueL s.files s.floor) (by omega) _ rfl (by simp) (by simp) rfl rfl rfl rfl rfl rfl _ _ ?_
  refine bdS (x := dl s.nn (s.files.map Fl.enc)) (clone_files s.nn _ (fun h => by rw [hs.nil h]; rfl) (by simp; omega)) ?_
  refine loop38 s.files s.floor (by omega) _ rfl (by simp) (by simp) rfl rfl rfl _ _ (fun i hi => ?_) (fun hn => ?_)
  · rw [List.findIdx?_eq_some_iff_getElem] at hi
    obtain ⟨hil, hdue, hfirst⟩ := hi
    refine cf (by show eqI (i : Int) (-1) = false; simp) ?_
    refine loop96 s.files s.floor (by omega) _ i hil rfl (by simp) rfl ?_ rfl rfl (fun j hj hji => by simpa using hfirst j hji) hdue _ _ (fun L hL hT => ?_)
    · show ad .i64 (i : Int) 1 = _
      rw [ad64 (by omega) (by omega)]; rfl
    have hkl : (keptL s.floor s.files).length ≤ s.files.length := List.length_filter_le _ _
    unfold x96_5e0
    dsimp only
    simp only [elems_slice, nn_slice, Int.toNat_natCast, List.length_map]
    refine ct (by simp [hL, hkl]) (ct (by simp [ap, rp, hL]; omega) ?_)
    simp only [Nat.zero_add, Nat.add_zero, Nat.sub_zero, List.drop_zero]
    have e1 : ∀ (Y Z : List D), List.take (keptL s.floor s.files).length (ap (ap (List.take (keptL s.floor s.files).length L) Y) Z) = (keptL s.floor s.files).map Fl.enc := by
      intro Y Z
      rw [← hT]
      simp only [ap, List.append_assoc]
      rw [List.take_append_of_le_length (by simp; omega), List.take_take, Nat.min_self]
    have e2 : List.take (dueL s.files s.floor).length (((dueL s.files s.floor).map delEv).map Ev.enc) = ((dueL s.files s.floor).map delEv).map Ev.enc := List.take_of_length_le (by simp)
    rw [e1, e2]
    rfl
  · rw [List.findIdx?_eq_none_iff] at hn
    have hids : dueL s.files s.floor = [] := by
      unfold dueL
      rw [List.map_eq_nil_iff, List.filter_eq_nil_iff]
      intro f hf
      have := hn f hf
      simpa [dueB] using this
    have hkept : (s.files.filter fun f => !decide (mayN f s.floor = 0)) = s.files := by
      rw [List.filter_eq_self]
      intro f hf
      have := hn f hf
      simpa [dueB] using this
    unfold x38_2e1
    dsimp only
    simp only [elems_slice, nn_slice, List.length_map, List.drop_zero]
    have e1 : List.take s.files.length (s.files.map Fl.enc) = s.files.map Fl.enc := List.take_of_length_le (by simp)
    have e2 : List.take (dueL s.files s.floor).length (((dueL s.files s.floor).map delEv).map Ev.enc) = ((dueL s.files s.floor).map delEv).map Ev.enc := List.take_of_length_le (by simp)
    rw [e1, e2]
    unfold sweepM Res.enc
    rw [hkept]
    rfl
end Go.AM.SD
namespace Go.AM.SD
open Go Go.AM
theorem cmp_spec (a b : ByteArray) (ha : a.size ≤ 1048576) (hb : b.size ≤ 1048576) : ∃ n : Int, F101.s FUEL a b = some (di n) ∧ (n < 0 ↔ lessB a b = true) := by
  unfold F101.s
  rw [less_spec a b ha hb, bd_some]
  cases h : lessB a b with
  | true => exact ⟨-1, ct rfl rfl, by simp⟩
  | false =>
    rw [show ∀ x y : Option D, cond (db false).b x y = y from fun _ _ => rfl, less_spec b a hb ha, bd_some]
    cases lessB b a with
    | true => exact ⟨1, ct rfl rfl, by simp⟩
    | false => exact ⟨0, cf rfl rfl, by simp⟩
theorem loop73 (nn : Bool) (fs : List Fl) (hl : fs.length ≤ 1048576) (s0 : F20.S73_3) (h186 : s0.n186 = 0) (h187 : s0.n187 = 0) (h188 : s0.d188 = dl nn (fs.map Fl.enc)) (h189 : s0.i189 = (fs.length : Int)) (h190 : s0.i190 = 0) (h225 : s0.b225 = false) (h226 : s0.l226 = [])
    (K : F20.X73_3 → Option D) (R : Option D) (hK : K (x73_3e0 { s0 with n187 := fs.length, i190 := (fs.length : Int), b225 := !fs.isEmpty, l226 := (fs.map (·.name)).map dS }) = R) : goS (F20.st73_3 FUEL) FUEL s0 K = R := by
  refine goS_rule (fun t : F20.S73_3 => ∃ k : Nat, t = { s0 with n187 := k, i190 := (k : Int), b225 := !(fs.take k).isEmpty, l226 := ((fs.take k).map (·.name)).map dS } ∧ k ≤ fs.length) (fun t => fs.length - t.i190.toNat) (fun o => o = R) ?_ _ _ ⟨0, ?_, by omega⟩ (by rw [h190]; simp [FUEL]; omega)
  · rintro _ rec ⟨k, rfl, hk⟩ hrec
    simp only [F20.st73_3, h186, h188, h189]
    by_cases h1 : k < fs.length
    · have hadd : ad .i64 (k : Int) 1 = ((k + 1 : Nat) : Int) := by rw [ad64 (by omega) (by omega)]; rfl
      have htk : fs.take (k + 1) = fs.take k ++ [fs[k]] := by rw [List.take_succ_eq_append_getElem h1]
      refine ct (by simp; omega) (ct (by simp; omega) (ct (by simp; omega) ?_))
      rw [hadd]
      refine hrec _ ⟨k + 1, ?_, by omega⟩ ?_
      rotate_left
      · simp; omega
      rw [F20.S73_3.mk.injEq]
      simp only [h186, h188, h189, true_and, and_true]
      refine ⟨?_, ?_⟩
      · rw [htk]; cases fs.take k <;> rfl
      · rw [htk]
        simp only [List.map_append, List.map_cons, List.map_nil, ap, List.drop_zero, elems_slice, Int.toNat_natCast]
        rw [List.take_of_length_le (by simp; omega), ix_map h1]
        rfl
    · have hkk : k = fs.length := by omega
      refine cf (by simp; omega) ?_
      subst hkk
      rw [List.take_length]
      unfold x73_3e0 at hK
      simp only [h186, h188, h189] at hK ⊢
      exact hK
  · cases s0
    simp only at h187 h190 h225 h226
    subst h187 h190 h225 h226
    simp
theorem rise_mid {A B : List ByteArray} {x : ByteArray} (h : riseB (A ++ B)) (hB : ∀ b ∈ B, lessB x b = true) (hA : ∀ a ∈ A, lessB a x = true) : riseB (A ++ x :: B) := by
  unfold riseB at h ⊢
  rw [List.pairwise_append] at h ⊢
  refine ⟨h.1, List.pairwise_cons.2 ⟨hB, h.2.1⟩, fun a ha b hb => ?_⟩
  rcases List.mem_cons.1 hb with rfl | hb
  · exact hA a ha
  · exact h.2.2 a ha b hb
theorem loop113_4 (A B rest : List ByteArray) (x : ByteArray) (n : Nat) (hn : n = (A ++ x :: B ++ rest).length) (hn12 : n ≤ 1048576) (hsz : ∀ y ∈ A ++ x :: B ++ rest, y.size ≤ 1048576) (hrise : riseB (A ++ B)) (hxB : ∀ b ∈ B, lessB x b = true) (hxA : x ∉ A)
    (s0 : F20.S113_4) (h310 : s0.n310 = 0) (h311 : s0.n311 = n) (h312 : s0.i312 = 0) (h315 : s0.i315 = (A.length : Int)) (h351 : s0.l351 = (A ++ x :: B ++ rest).map dS)
    (K : F20.X113_4 → Option D) (R : Option D) (hK : ∀ A' B' : List ByteArray, riseB (A' ++ x :: B') → A' ++ B' = A ++ B → (∀ r, K (x113_4e0 { s0 with i315 := (A'.length : Int), l351 := (A' ++ x :: B' ++ rest).map dS } r) = R) ∧ K (x113_4e1 { s0 with i315 := (A'.length : Int), l351 := (A' ++ x :: B' ++ rest).map dS }) = R) :
    goS (F20.st113_4 FUEL) FUEL s0 K = R := by
  refine goS_rule (fun t : F20.S113_4 => ∃ A' B' : List ByteArray, t = { s0 with i315 := (A'.length : Int), l351 := (A' ++ x :: B' ++ rest).map dS } ∧ A' ++ B' = A ++ B ∧ (∀ b ∈ B', lessB x b = true) ∧ x ∉ A') (fun t => t.i315.toNat) (fun o => o = R) ?_ _ _ ⟨A, B, ?_, rfl, hxB, hxA⟩ (by rw [h315]; simp only [List.length_append, List.length_cons] at hn; simp [FUEL]; omega)
  · rintro _ rec ⟨A', B', rfl, hAB, hB', hA'⟩ hrec
    have hrise' : riseB (A' ++ B') := by rw [hAB]; exact hrise
    have hlen : A'.length + B'.length = A.length + B.length := by have := congrArg List.length hAB; simpa using this
    have hmem : ∀ y, y ∈ A' ++ B' ↔ y ∈ A ++ B := fun y => by rw [hAB]
    simp only [F20.st113_4, h310, h311, h312]
    simp only [List.length_append, List.length_cons] at hn
    rcases List.eq_nil_or_concat A' with rfl | ⟨A0, y, rfl⟩
    · refine cf (by simp) ?_
      have := (hK [] B' (rise_mid (A := []) hrise' hB' (by simp)) hAB).2
      unfold x113_4e1 at this
      simp only [h310, h311, h312] at this ⊢
      exact this
    · simp only [List.concat_eq_append] at *
      have hxs : x.size ≤ 1048576 := hsz x (by simp)
      have hys : y.size ≤ 1048576 := by
        have := (hmem y).1 (by simp)
        exact hsz y (by simp at this ⊢; rcases this with h | h <;> simp [h])
      have hlA : ((A0 ++ [y]).length : Int) = ((A0.length + 1 : Nat) : Int) := by simp
      rw [hlA]
      have hsub : sb .i64 ((A0.length + 1 : Nat) : Int) 1 = (A0.length : Int) := by
        simp only [List.length_append, List.length_cons, List.length_nil] at hlen
        rw [sb64 (by omega) (by omega)]; omega
      have hL : ((A0 ++ [y]) ++ x :: B' ++ rest).map dS = A0.map dS ++ dS y :: dS x :: (B' ++ rest).map dS := by simp
      have e1 : ix (A0.map dS ++ dS y :: dS x :: (B' ++ rest).map dS) (0 + (Int.toNat ((A0.length + 1 : Nat) : Int))) = dS x := by
        rw [ix_eq (by simp)]
        simp [List.getElem_append]
      have e2 : ix (A0.map dS ++ dS y :: dS x :: (B' ++ rest).map dS) (0 + (Int.toNat (A0.length : Int))) = dS y := by
        rw [ix_eq (by simp)]
        simp [List.getElem_append]
      simp only [List.length_append, List.length_cons, List.length_nil] at hlen
      rw [hL, hsub, e1, e2]
      refine ct (by simp only [gtI_t]; omega) (ct (by simp only [inb_t]; omega) (ct (by simp only [inb_t]; omega) ?_))
      obtain ⟨c, hc1, hc2⟩ := cmp_spec x y hxs hys
      refine bdS hc1 ?_
      by_cases hlt : lessB x y = true
      · refine ct (by have := hc2.2 hlt; simpa using this) (ct (by simp only [inb_t]; omega) (ct (by simp only [inb_t]; omega) (ct (by simp only [inb_t]; omega) (ct (by simp only [inb_t]; omega) ?_))))
        have e3 : ((A0.map dS ++ dS y :: dS x :: (B' ++ rest).map dS).set (0 + (Int.toNat ((A0.length + 1 : Nat) : Int))) (dS y)).set (0 + (Int.toNat (A0.length : Int))) (dS x) = (A0 ++ x :: (y :: B') ++ rest).map dS := by
          simp [List.set_append]
        rw [e3]
        refine hrec _ ⟨A0, y :: B', ?_, by rw [← hAB]; simp, ?_, fun h => hA' (by simp [h])⟩ ?_
        · simp only [h310, h311, h312]
        · intro b hb
          rcases List.mem_cons.1 hb with rfl | hb
          · exact hlt
          · exact hB' b hb
        · simp
      · refine cf (by have : ¬ c < 0 := fun h => hlt (hc2.1 h); simp; omega) ?_
        have hyx : lessB y x = true := less_of_not (by simpa using hlt) (fun e => hA' (by simp [e]))
        have hall : ∀ a ∈ A0 ++ [y], lessB a x = true := by
          intro a ha
          rcases List.mem_append.1 ha with ha | ha
          · have hp := (List.pairwise_append.1 hrise').1
            exact less_trans ((List.pairwise_append.1 hp).2.2 a ha y (by simp)) hyx
          · simp only [List.mem_singleton] at ha; subst ha; exact hyx
        have := (hK (A0 ++ [y]) B' (rise_mid hrise' hB' hall) hAB).1 (di c)
        unfold x113_4e0 at this
        simp only [h310, h311, h312] at this ⊢
        rw [hL, hlA] at this
        exact this
  · cases s0
    simp only at h315 h351
    subst h315 h351
    rfl
theorem loop113_1 (names : List ByteArray) (n : Nat) (hn : n = names.length) (hn12 : n ≤ 1000000) (hsz : ∀ y ∈ names, y.size ≤ 1048576) (hnd : names.Nodup)
    (s0 : F20.S113_1) (h269 : s0.n269 = 0) (h270 : s0.n270 = n) (h271 : s0.i271 = 0) (h272 : s0.i272 = (n : Int)) (h273 : s0.i273 = 1) (h309 : s0.l309 = names.map dS)
    (K : F20.X113_1 → Option D) (R : Option D) (hK : ∀ i : Int, K (x113_1e0 { s0 with i273 := i, l309 := (sortN names).map dS }) = R) : goS (F20.st113_1 FUEL) FUEL s0 K = R := by
  refine goS_rule (fun t : F20.S113_1 => ∃ (k : Nat) (l : List ByteArray), t = { s0 with i273 := (k : Int), l309 := l.map dS } ∧ 1 ≤ k ∧ (k ≤ n ∨ k = 1) ∧ l.Perm names ∧ riseB (l.take k)) (fun t => n - t.i273.toNat) (fun o => o = R) ?_ _ _ ⟨1, names, ?_, by omega, .inr rfl, List.Perm.refl _, ?_⟩ (by rw [h273]; simp [FUEL]; omega)
  · rintro _ rec ⟨k, l, rfl, hk1, hk2, hp, hr⟩ hrec
    have hll : l.length = n := by rw [hn]; exact hp.length_eq
    have hlnd : l.Nodup := hp.nodup_iff.2 hnd
    simp only [F20.st113_1, h269, h270, h271, h272]
    by_cases h1 : k < n
    · have hadd : ad .i64 (k : Int) 1 = ((k + 1 : Nat) : Int) := by rw [ad64 (by omega) (by omega)]; rfl
      have hsplit : l = l.take k ++ l[k] :: [] ++ l.drop (k + 1) := by simp
      refine ct (by simp; omega) ?_
      have hxA : l[k] ∉ l.take k := by
        intro h
        obtain ⟨j, hj, he⟩ := List.getElem_of_mem h
        simp only [List.length_take] at hj
        rw [List.getElem_take] at he
        exact (List.pairwise_iff_getElem.1 hlnd) j k (by omega) (by omega) (by omega) he
      refine loop113_4 (l.take k) [] (l.drop (k + 1)) l[k] n (by rw [← hsplit]; exact hll.symm) (by omega) (fun y hy => hsz y (hp.mem_iff.1 (by rw [← hsplit] at hy; exact hy))) (by simpa using hr) (by simp) hxA _ rfl rfl rfl (by show (k : Int) = _; simp; omega) (by show l.map dS = _; rw [← hsplit]) _ _ (fun A' B' hr' hab => ?_)
      · have hlen : A'.length + B'.length = k := by have := congrArg List.length hab; simp at this; omega
        have hperm : (A' ++ l[k] :: B' ++ l.drop (k + 1)).Perm l := by
          have h2 : (A' ++ l[k] :: B').Perm (l.take k ++ [l[k]]) := by
            refine List.perm_middle.trans (((List.Perm.of_eq hab).cons _).trans ?_)
            rw [List.append_nil]
            exact (List.perm_append_singleton _ _).symm
          have h3 := h2.append_right (l.drop (k + 1))
          have h4 : l.take k ++ [l[k]] ++ l.drop (k + 1) = l := by simp
          rw [h4] at h3
          exact h3
        have hfin : rec { s0 with i273 := ad .i64 (k : Int) 1, l309 := (A' ++ l[k] :: B' ++ l.drop (k + 1)).map dS } = R := by
          rw [hadd]
          refine hrec _ ⟨k + 1, A' ++ l[k] :: B' ++ l.drop (k + 1), rfl, by omega, by omega, hperm.trans hp, ?_⟩ ?_
          · rw [List.take_append_of_le_length (by simp; omega), List.take_of_length_le (by simp; omega)]
            exact hr'
          · simp; omega
        rw [h269, h270, h271, h272] at hfin
        exact ⟨fun r => hfin, hfin⟩
    · refine cf (by simp; omega) ?_
      have hfull : l.take k = l := List.take_of_length_le (by omega)
      rw [hfull] at hr
      have hl : l = sortN names := rise_eq hr (sortN_rise hnd) (hp.trans (sortN_perm names).symm)
      subst hl
      have := hK (k : Int)
      unfold x113_1e0 at this
      simp only [h269, h270, h271, h272] at this ⊢
      exact this
  · cases s0
    simp only at h273 h309
    subst h273 h309
    rfl
  · unfold riseB
    cases names with
    | nil => simp
    | cons a l => simp
end Go.AM.SD
namespace Go.AM.SD
open Go Go.AM
theorem loop108_2 (s0 : F20.S108_2) (h : s0.i229 < s0.i232) (K : F20.X108_2 → Option D) (R : Option D) (hK : K (x108_2e0 s0) = R) : goS (F20.st108_2 FUEL) FUEL s0 K = R := by
  refine goS_rule (fun t : F20.S108_2 => t = s0) (fun _ => 0) (fun o => o = R) ?_ _ _ rfl (by simp)
  rintro s1 rec rfl hrec
  cases s1
  simp only [F20.st108_2]
  exact cf (by simpa using h) hK
theorem loop108_7 (s0 : F20.S108_7) (h : s0.i355 ≤ s0.i356) (K : F20.X108_7 → Option D) (R : Option D) (hK : K (x108_7e0 s0) = R) : goS (F20.st108_7 FUEL) FUEL s0 K = R := by
  refine goS_rule (fun t : F20.S108_7 => t = s0) (fun _ => 0) (fun o => o = R) ?_ _ _ rfl (by simp)
  rintro s1 rec rfl hrec
  cases s1
  simp only [F20.st108_7]
  exact cf (by simpa using h) hK
theorem names_nodup {s : St} (hs : StOk s) : (s.files.map (·.name)).Nodup := by
  unfold List.Nodup
  rw [List.pairwise_map]
  exact hs.names
theorem list_spec (s : St) (o : Mo) (hs : StOk s) : F20.listS FUEL s.enc o.enc = some (listM s).enc := by
  have hl := hs.len
  unfold F20.listS
  have h0 : s.enc.at 0 = dl s.nn (s.files.map Fl.enc) := rfl
  rw [h0]
  refine loop73 s.nn s.files (by omega) _ rfl rfl rfl (by simp) rfl rfl rfl _ _ ?_
  unfold x73_3e0
  dsimp only
  refine loop108_2 _ (by simp; omega) _ _ ?_
  unfold x108_2e0
  dsimp only
  refine loop113_1 (s.files.map (·.name)) s.files.length (by simp) (by omega) (fun y hy => ?_) (names_nodup hs) _ rfl rfl rfl (by simp) ?_ rfl _ _ (fun i => ?_)
  · obtain ⟨f, hf, rfl⟩ := List.mem_map.1 hy
    have := (hs.files f hf).nsz; omega
  · show ad .i64 0 1 = 1
    rw [ad64 (by omega) (by omega)]; rfl
  unfold x113_1e0
  dsimp only
  refine loop108_7 _ (by simp; omega) _ _ ?_
  unfold x108_7e0
  dsimp only
  have e : List.take s.files.length (List.drop 0 ((sortN (s.files.map (·.name))).map dS)) = (sortN (s.files.map (·.name))).map dS := by
    rw [List.drop_zero, List.take_of_length_le]
    have := (sortN_perm (s.files.map (·.name))).length_eq
    simp at this ⊢; omega
  rw [e]
  rfl
theorem create_spec (s : St) (o : Mo) (hs : StOk s) (ho : MoOk o) : F20.createS FUEL s.enc o.enc = some (createM s o).enc := by
  have hl := hs.len
  have l0 := hs.last0
  have l1 := hs.last1
  unfold F20.createS createM
  have hn : (o.enc.at 1).s = o.name := rfl
  have h0 : s.enc.at 0 = dl s.nn (s.files.map Fl.enc) := rfl
  have hla : (s.enc.at 1).i = s.last := rfl
  have hon := ho.name
  rw [hn, h0, hla]
  refine bdS (name_spec o.name (by omega)) ?_
  cases hv : nameB o.name with
  | false => rw [if_pos rfl]; exact ct rfl (stay_enc s 2)
  | true =>
    rw [if_neg (by simp)]
    refine cf rfl (bdS (find_specM s o.name (by omega)) ?_)
    by_cases h1 : 0 ≤ findI (fun f : Fl => decide (f.name = o.name)) s.files
    · rw [if_pos h1]; exact ct (by simpa using h1) (stay_enc s 4)
    rw [if_neg h1]
    refine cf (by simp only [geI_f, i_int]; omega) ?_
    by_cases h2 : 12 ≤ s.files.length
    · rw [if_pos h2]; exact ct (by simp; omega) (stay_enc s 10)
    rw [if_neg h2]
    refine cf (by simp; omega) ?_
    by_cases h3 : 1099511627776 ≤ s.last
    · rw [if_pos h3]; exact ct (by simpa using h3) (stay_enc s 10)
    rw [if_neg h3]
    refine cf (by simp; omega) ?_
    have hadd : ad .i64 s.last 1 = s.last + 1 := by rw [ad64 (by omega) (by omega)]
    have hnew : newF (s.last + 1) o.name = (⟨s.last + 1, o.name, bs [], false, 0, false, []⟩, 0) := by
      unfold newF
      rw [if_neg (by simp [hv]), if_pos (by omega)]
    refine bdS (by rw [hadd]; exact new_spec (s.last + 1) o.name (by omega)) ?_
    rw [hnew]
    refine cf rfl (bdS (clone_files s.nn _ (fun h => by rw [hs.nil h]; rfl) (by simp; omega)) (ct (by simp; omega) ?_))
    have e : ((ap (((s.files.map Fl.enc).drop 0).take (s.files.map Fl.enc).length) [Fl.enc ⟨s.last + 1, o.name, bs [], false, 0, false, []⟩]).drop 0).take ((s.files.map Fl.enc).length + 1) = (s.files ++ [(⟨s.last + 1, o.name, bs [], false, 0, false, []⟩ : Fl)]).map Fl.enc := by
      rw [List.drop_zero, List.drop_zero, ap, List.take_of_length_le (l := s.files.map Fl.enc) (Nat.le_refl _), List.take_of_length_le (by simp)]
      simp
    have e2 : (s.nn || true) = true := by simp
    refine Eq.trans ?_ (congrArg (fun l => some (D.tup [da [dl true l, di (s.last + 1), di s.floor], (An.enc ⟨0, s.last + 1, bs [], zeroF, false, []⟩), dl true [Ev.enc ⟨0, s.last + 1, o.name, 0, 0, zeros⟩]])) e)
    show some (D.tup [da [dl (s.nn || true) _, _, _], _, _]) = _
    rw [e2]
    rfl
theorem do_specM (s : St) (o : Mo) (hs : StOk s) (ho : MoOk o) : F20.s FUEL s.enc o.enc = some (doM shaL s o).enc := by
  have hl := hs.len
  unfold F20.s
  by_cases hneg : o.kind < 0
  · have hR : doM shaL s o = stay s 1 := by unfold doM; rw [if_pos hneg]
    rw [hR]
    exact ct (by show ltI o.kind 0 = true; simpa using hneg) (stay_enc s 1)
  refine cf (by show ltI o.kind 0 = false; simp; omega) ?_
  by_cases hbig : 12 ≤ o.kind
  · have hR : doM shaL s o = stay s 1 := by unfold doM; rw [if_neg hneg, if_pos hbig]
    rw [hR]
    exact ct (by show geI o.kind 12 = true; simpa using hbig) (stay_enc s 1)
  refine cf (by show geI o.kind 12 = false; simp; omega) (ct (by show inb o.kind 12 = true; simp; omega) ?_)
  by_cases h0 : o.kind = 0
  · have hR : doM shaL s o = createM s o := by
      unfold doM
      repeat (first | rw [if_neg (by omega)] | rw [if_pos (by omega)])
    rw [hR]
    refine ct (by show (o.kind.toNat == 0) = true; rw [h0]; rfl) ?_
    exact create_spec s o hs ho
  refine cf (by show (o.kind.toNat == 0) = false; simp; omega) ?_
  by_cases h1 : o.kind = 1
  · have hR : doM shaL s o = changeM shaL s o := by
      unfold doM
      repeat (first | rw [if_neg (by omega)] | rw [if_pos (by omega)])
    rw [hR]
    refine ct (by show ((o.kind.toNat - 1) == 0) = true; rw [h1]; rfl) ?_
    exact change_spec s o hs ho
  refine cf (by show ((o.kind.toNat - 1) == 0) = false; simp; omega) ?_
  by_cases h2 : o.kind = 2
  · have hR : doM shaL s o = changeM shaL s o := by
      unfold doM
      repeat (first | rw [if_neg (by omega)] | rw [if_pos (by omega)])
    rw [hR]
    refine ct (by show (((o.kind.toNat - 1) - 1) == 0) = true; rw [h2]; rfl) ?_
    exact change_spec s o hs ho
  refine cf (by show (((o.kind.toNat - 1) - 1) == 0) = false; simp; omega) ?_
  by_cases h3 : o.kind = 3
  · have hR : doM shaL s o = changeM shaL s o := by
      unfold doM
      repeat (first | rw [if_neg (by omega)] | rw [if_pos (by omega)])
    rw [hR]
    refine ct (by show ((((o.kind.toNat - 1) - 1) - 1) == 0) = true; rw [h3]; rfl) ?_
    exact change_spec s o hs ho
  refine cf (by show ((((o.kind.toNat - 1) - 1) - 1) == 0) = false; simp; omega) ?_
  by_cases h4 : o.kind = 4
  · have hR : doM shaL s o = changeM shaL s o := by
      unfold doM
      repeat (first | rw [if_neg (by omega)] | rw [if_pos (by omega)])
    rw [hR]
    refine ct (by show (((((o.kind.toNat - 1) - 1) - 1) - 1) == 0) = true; rw [h4]; rfl) ?_
    exact change_spec s o hs ho
  refine cf (by show (((((o.kind.toNat - 1) - 1) - 1) - 1) == 0) = false; simp; omega) ?_
  by_cases h5 : o.kind = 5
  · have hR : doM shaL s o = changeM shaL s o := by
      unfold doM
      repeat (first | rw [if_neg (by omega)] | rw [if_pos (by omega)])
    rw [hR]
    refine ct (by show ((((((o.kind.toNat - 1) - 1) - 1) - 1) - 1) == 0) = true; rw [h5]; rfl) ?_
    exact change_spec s o hs ho
  refine cf (by show ((((((o.kind.toNat - 1) - 1) - 1) - 1) - 1) == 0) = false; simp; omega) ?_
  by_cases h6 : o.kind = 6
  · have hR : doM shaL s o = changeM shaL s o := by
      unfold doM
      repeat (first | rw [if_neg (by omega)] | rw [if_pos (by omega)])
    rw [hR]
    refine ct (by show (((((((o.kind.toNat - 1) - 1) - 1) - 1) - 1) - 1) == 0) = true; rw [h6]; rfl) ?_
    exact change_spec s o hs ho
  refine cf (by show (((((((o.kind.toNat - 1) - 1) - 1) - 1) - 1) - 1) == 0) = false; simp; omega) ?_
  by_cases h7 : o.kind = 7
  · have hR : doM shaL s o = tickM s o := by
      unfold doM
      repeat (first | rw [if_neg (by omega)] | rw [if_pos (by omega)])
    rw [hR]
    refine ct (by show ((((((((o.kind.toNat - 1) - 1) - 1) - 1) - 1) - 1) - 1) == 0) = true; rw [h7]; rfl) ?_
    refine bdS (floor_spec s.floor o.time) ?_
    unfold tickM
    by_cases hf : floorN s.floor o.time = s.floor
    · rw [if_pos hf]
      exact cf (by show neI (floorN s.floor o.time) s.floor = false; simpa using hf) rfl
    · rw [if_neg hf]
      exact ct (by show neI (floorN s.floor o.time) s.floor = true; simpa using hf) rfl
  refine cf (by show ((((((((o.kind.toNat - 1) - 1) - 1) - 1) - 1) - 1) - 1) == 0) = false; simp; omega) ?_
  by_cases h8 : o.kind = 8
  · have hR : doM shaL s o = sweepM s := by
      unfold doM
      repeat (first | rw [if_neg (by omega)] | rw [if_pos (by omega)])
    rw [hR]
    refine ct (by show (((((((((o.kind.toNat - 1) - 1) - 1) - 1) - 1) - 1) - 1) - 1) == 0) = true; rw [h8]; rfl) ?_
    exact sweep_spec s o hs
  refine cf (by show (((((((((o.kind.toNat - 1) - 1) - 1) - 1) - 1) - 1) - 1) - 1) == 0) = false; simp; omega) ?_
  by_cases h9 : o.kind = 9
  · have hR : doM shaL s o = readM s o := by
      unfold doM
      repeat (first | rw [if_neg (by omega)] | rw [if_pos (by omega)])
    rw [hR]
    refine ct (by show ((((((((((o.kind.toNat - 1) - 1) - 1) - 1) - 1) - 1) - 1) - 1) - 1) == 0) = true; rw [h9]; rfl) ?_
    unfold readM
    refine bdS (find_specM s o.name (by omega)) ?_
    cases hx : findM s o.name with
    | none =>
      dsimp only
      rw [findI_none hx]
      exact ct (by simp) (stay_enc s 3)
    | some i =>
      obtain ⟨hi, hnm⟩ := findM_is hx
      dsimp only
      rw [List.getElem?_eq_getElem hi, findI_some hx]
      dsimp only
      have hie : ix (s.enc.at 0).elems ((di (i : Int)).i).toNat = s.files[i].enc := by
        show ix (s.files.map Fl.enc) (i : Int).toNat = _
        rw [Int.toNat_natCast, ix_map hi]
      refine cf (by simp) (ct (by show inb (i : Int) (s.files.map Fl.enc).length = true; simp; omega) ?_)
      rw [hie]
      exact bdS (read_spec s.files[i] o.a o.b) rfl
  refine cf (by show ((((((((((o.kind.toNat - 1) - 1) - 1) - 1) - 1) - 1) - 1) - 1) - 1) == 0) = false; simp; omega) ?_
  by_cases h10 : o.kind = 10
  · have hR : doM shaL s o = statM s o := by
      unfold doM
      repeat (first | rw [if_neg (by omega)] | rw [if_pos (by omega)])
    rw [hR]
    refine ct (by show (((((((((((o.kind.toNat - 1) - 1) - 1) - 1) - 1) - 1) - 1) - 1) - 1) - 1) == 0) = true; rw [h10]; rfl) ?_
    unfold statM
    refine bdS (find_specM s o.name (by omega)) ?_
    cases hx : findM s o.name with
    | none =>
      dsimp only
      rw [findI_none hx]
      exact ct (by simp) (stay_enc s 3)
    | some i =>
      obtain ⟨hi, hnm⟩ := findM_is hx
      dsimp only
      rw [List.getElem?_eq_getElem hi, findI_some hx]
      dsimp only
      have hie : ix (s.enc.at 0).elems ((di (i : Int)).i).toNat = s.files[i].enc := by
        show ix (s.files.map Fl.enc) (i : Int).toNat = _
        rw [Int.toNat_natCast, ix_map hi]
      refine cf (by simp) (ct (by show inb (i : Int) (s.files.map Fl.enc).length = true; simp; omega) ?_)
      rw [hie]
      exact bdS (meta_spec s.files[i]) rfl
  refine cf (by show (((((((((((o.kind.toNat - 1) - 1) - 1) - 1) - 1) - 1) - 1) - 1) - 1) - 1) == 0) = false; simp; omega) ?_
  by_cases h11 : o.kind = 11
  · have hR : doM shaL s o = listM s := by
      unfold doM
      repeat (first | rw [if_neg (by omega)] | rw [if_pos (by omega)])
    rw [hR]
    refine ct (by show ((((((((((((o.kind.toNat - 1) - 1) - 1) - 1) - 1) - 1) - 1) - 1) - 1) - 1) - 1) == 0) = true; rw [h11]; rfl) ?_
    exact list_spec s o hs
  refine cf (by show ((((((((((((o.kind.toNat - 1) - 1) - 1) - 1) - 1) - 1) - 1) - 1) - 1) - 1) - 1) == 0) = false; simp; omega) ?_
  omega
end Go.AM.SD
namespace Go.AM.SD
open Go Go.AM Go.Proofs Go.RowKit
namespace F19
def cons : List (Nat × Con) := [(20, F20.c)]
def exts : List (Nat × Ext) := []
def h : List (Nat × Nat × Hint) := [(19, 4, { live := [2, 4, 7, 8, 13, 14, 15], rows := [(7, 56), (8, 38)], own := false, inpl := false })]
noncomputable def e (M : Nat) : Env := env cons exts h M
noncomputable def t19_0 (_ : Nat) : List Ent := []
theorem t19_0_ok (M : Nat) : AllOk (e M) (tblOf (t19_0 M)) := AllOk.nil
structure S4 where
  n1 : Nat
  n2 : Nat
  n3 : Nat
  n4 : Nat
  d5 : D
  i6 : Int
  i7 : Int
  d8 : D
  b9 : Bool
  l10 : (List D)
  i11 : Int
  i12 : Int
  b13 : Bool
  l14 : (List D)
  b15 : Bool
  l16 : (List D)
inductive X4 where
  | e0 (n1 : Nat) (n2 : Nat) (n3 : Nat) (n4 : Nat) (d5 : D) (i6 : Int) (i7 : Int) (d8 : D) (b9 : Bool) (l10 : (List D)) (i11 : Int) (i12 : Int) (b13 : Bool) (l14 : (List D)) (b15 : Bool) (l16 : (List D))
def st4 (M : Nat) : S4 → (S4 → Option D) → (X4 → Option D) → Option D
  | ⟨n1, n2, n3, n4, d5, i6, i7, d8, b9, l10, i11, i12, b13, l14, b15, l16⟩, rec, K => (cond (ltI i7 i6) (cond (inb i7 d5.elems.length) (bd (F20.s FUEL d8 (ix d5.elems i7.toNat)) fun r17 => (cond (mx (n2 + 1)) (cond (mx (n4 + (r17.at 2).elems.length)) (rec ⟨0, (n2 + 1), 0, (n4 + (r17.at 2).elems.length), d5, i6, (ad .i64 i7 1), (r17.at 0), b9, l10, i11, i12, (b13 || true), (ap ((l14.drop n1).take n2) [(r17.at 1)]), (b15 || (!(r17.at 2).elems.isEmpty)), (ap ((l16.drop n3).take n4) (r17.at 2).elems)⟩) none) none)) none) (K (.e0 n1 n2 n3 n4 d5 i6 i7 d8 b9 l10 i11 i12 b13 l14 b15 l16)))
def lv4 : S4 → List Leaf
  | ⟨n1, n2, n3, n4, d5, i6, i7, d8, b9, l10, i11, i12, b13, l14, b15, l16⟩ => [.n n1, .n n2, .n n3, .n n4, .d d5, .i i6, .i i7, .d d8, .b b9, .l l10, .i i11, .i i12, .b b13, .l l14, .b b15, .l l16]
def of4 : List Leaf → Option S4
  | [.n n1, .n n2, .n n3, .n n4, .d d5, .i i6, .i i7, .d d8, .b b9, .l l10, .i i11, .i i12, .b b13, .l l14, .b b15, .l l16] => some ⟨n1, n2, n3, n4, d5, i6, i7, d8, b9, l10, i11, i12, b13, l14, b15, l16⟩
  | _ => none
def ex4 (k : Kont) : X4 → Option D
  | .e0 n1 n2 n3 n4 d5 i6 i7 d8 b9 l10 i11 i12 b13 l14 b15 l16 => k (.exit 0) (us 2 ((.ptr 0 [] (.struct [49, 3, 3])) :: (us 1 ((.ptr 1 [] (.struct [49, 3, 3])) :: (us 2 ((.sref 2 n1 n2) :: ((.sref 3 n3 n4) :: (us 4 ((.d (.slice 47) d5) :: ((.d (.int .i64) (di i6)) :: ((.d (.int .i64) (di i7)) :: ((.d .bool (db (ltI i7 i6))) :: (us 20 []))))))))))))) [(.var (.struct [49, 3, 3]) (.d (.struct [49, 3, 3]) d8)), (.var (.struct [49, 3, 3]) (.d (.struct [49, 3, 3]) (da [(dl b9 l10), (di i11), (di i12)]))), (.row 56 true b13 l14), (.row 38 true b15 l16)]
def ps4 : List PV := (up 2 ((.ptr 0 [] (.struct [49, 3, 3])) :: (up 1 ((.ptr 1 [] (.struct [49, 3, 3])) :: (up 2 ((.sref 2) :: ((.sref 3) :: (up 4 ((.d (.slice 47) .x) :: ((.d (.int .i64) (.int .i64)) :: ((.d (.int .i64) (.int .i64)) :: (up 21 []))))))))))))
def qs4 : List PO := [(.var (.struct [49, 3, 3]) (.d (.struct [49, 3, 3]) .x)), (.var (.struct [49, 3, 3]) (.d (.struct [49, 3, 3]) (.agg [.slice, (.int .i64), (.int .i64)]))), (.row 56 true), (.row 38 true)]
noncomputable def sum4 (M : Nat) : Sum := sumS [2, 4, 7, 8, 13, 14, 15] ps4 qs4 [(7, 2), (8, 3)] of4 (st4 M) ex4 M
theorem sok4 (M : Nat) : SumOk (loopRd (e M) 19 4) (e M) (call (e M) 11) 19 0 (loopAt (e M) 19 4) (sum4 M) :=
  sumOk_st (T := tblOf (t19_0 M)) (n0 := 4) (lv := lv4) (t19_0_ok M) (by kernel_rfl) rfl (by intro ls s h; unfold of4 at h; (repeat' split at h) <;> simp at h; subst h; rfl) (by intro s; kernel_rfl) (by intro s; kernel_rfl) (by intro s nx k; kernel_rfl)
noncomputable def t19_1 (M : Nat) : List Ent := ⟨19, 11, 0, 4, sum4 M⟩ :: t19_0 M
theorem t19_1_ok (M : Nat) : AllOk (e M) (tblOf (t19_1 M)) := (t19_0_ok M).add ⟨19, 11, 0, 4, sum4 M⟩ (by kernel_rfl) (sok4 M)
def s (M : Nat) (p0 : D) (p1 : D) : Option D :=
  (goS (st4 M) M ⟨0, 0, 0, 0, p1, (nI p1.elems.length), 0, p0, false, [], 0, 0, false, [], false, []⟩ fun x => match x with | .e0 n1 n2 n3 n4 d5 i6 i7 d8 b9 l10 i11 i12 b13 l14 b15 l16 => (some (D.tup [d8, (dl b13 ((l14.drop n1).take n2)), (dl b15 ((l16.drop n3).take n4))])))
theorem run (M : Nat) (p0 : D) (p1 : D) : callS (e M) (tblOf (t19_1 M)) 12 (.fn 19) [.d (.struct [49, 3, 3]) p0, .d (.slice 47) p1] [] (fun v H => finish ty [51, 52, 22] v H) = s M p0 p1 := by kernel_rfl
noncomputable abbrev t (M : Nat) : List Ent := t19_1 M
theorem t_ok (M : Nat) : AllOk (e M) (tblOf (t M)) := t19_1_ok M
def c : Con := { run := fun ds => match ds with | [p0, p1] => s FUEL p0 p1 | _ => none, fresh := false, plain := false }
theorem fun_at : Tryd.prog.funcs[19]? = some Tryd.f19 := by kernel_rfl
theorem params : Tryd.f19.params.toList.map ty = [(.struct [49, 3, 3]), (.slice 47)] := by kernel_rfl
theorem results : Tryd.f19.resultTypes.toList = [51, 52, 22] := by kernel_rfl
theorem ok : ConOk (19, c) := by
  intro fn hfn
  obtain rfl : Tryd.f19 = fn := Option.some.inj (fun_at.symm.trans hfn)
  refine contract_flat (n := 20) hgl (fun h => by simp at h) (fun ds r hh0 hr => ?_)
  rw [params] at hh0
  obtain ⟨p0, ds0, rfl, h0, hh1⟩ := hass_cons hh0
  obtain ⟨p1, ds1, rfl, h1, hh2⟩ := hass_cons hh1
  obtain rfl := hass_nil hh2
  refine ⟨e FUEL, DEPTH, tblOf (t FUEL), envOk (allCons F20.ok allNil) allNil, rfl, t_ok FUEL, ?_⟩
  rw [params, results]
  exact (run FUEL p0 p1).trans hr
end F19
namespace F45
def cons : List (Nat × Con) := []
def exts : List (Nat × Ext) := []
def h : List (Nat × Nat × Hint) := []
noncomputable def e (M : Nat) : Env := env cons exts h M
noncomputable def t45_0 (_ : Nat) : List Ent := []
theorem t45_0_ok (M : Nat) : AllOk (e M) (tblOf (t45_0 M)) := AllOk.nil
def s (M : Nat) (p0 : Int) (p1 : Int) : Option D :=
  (cond (geI p0 0) (some (db (leI p0 p1))) (some (db false)))
theorem run (M : Nat) (p0 : Int) (p1 : Int) : callS (e M) (tblOf (t45_0 M)) 12 (.fn 45) [.d (.int .i64) (di p0), .d (.int .i64) (di p1)] [] (fun v H => finish ty [4] v H) = s M p0 p1 := by kernel_rfl
noncomputable abbrev t (M : Nat) : List Ent := t45_0 M
theorem t_ok (M : Nat) : AllOk (e M) (tblOf (t M)) := t45_0_ok M
def c : Con := { run := fun ds => match ds with | [p0, p1] => s FUEL p0.i p1.i | _ => none, fresh := false, plain := true }
theorem fun_at : Tryd.prog.funcs[45]? = some Tryd.f45 := by kernel_rfl
theorem params : Tryd.f45.params.toList.map ty = [(.int .i64), (.int .i64)] := by kernel_rfl
theorem results : Tryd.f45.resultTypes.toList = [4] := by kernel_rfl
theorem flat : Tryd.f45.resultTypes.toList.all (fun t => K.flat ty 20 (ty t)) = true := by kernel_rfl
theorem ok : ConOk (45, c) := by
  intro fn hfn
  obtain rfl : Tryd.f45 = fn := Option.some.inj (fun_at.symm.trans hfn)
  refine contract_flat (n := 20) hgl (fun _ => flat) (fun ds r hh0 hr => ?_)
  rw [params] at hh0
  obtain ⟨p0, ds0, rfl, h0, hh1⟩ := hass_cons hh0
  obtain ⟨p0, rfl⟩ := has_int h0
  obtain ⟨p1, ds1, rfl, h1, hh2⟩ := hass_cons hh1
  obtain ⟨p1, rfl⟩ := has_int h1
  obtain rfl := hass_nil hh2
  refine ⟨e FUEL, DEPTH, tblOf (t FUEL), envOk allNil allNil, rfl, t_ok FUEL, ?_⟩
  rw [params, results]
  exact (run FUEL p0 p1).trans hr
end F45
namespace F46
def cons : List (Nat × Con) := [(49, F49.c), (76, F76.c), (77, F77.c)]
def exts : List (Nat × Ext) := []
def h : List (Nat × Nat × Hint) := [(46, 6, { live := [1, 50, 51, 52], rows := [], own := false, inpl := false })]
noncomputable def e (M : Nat) : Env := env cons exts h M
noncomputable def t46_0 (_ : Nat) : List Ent := []
theorem t46_0_ok (M : Nat) : AllOk (e M) (tblOf (t46_0 M)) := AllOk.nil
structure S6 where
  d3 : D
  i4 : Int
  i5 : Int
  d6 : D
inductive X6 where
  | e0 (d3 : D) (i4 : Int) (i5 : Int) (d6 : D) (r7 : D)
  | e1 (d3 : D) (i4 : Int) (i5 : Int) (d6 : D) (r7 : D) (r8 : D)
  | e2 (d3 : D) (i4 : Int) (i5 : Int) (d6 : D)
def st6 (M : Nat) : S6 → (S6 → Option D) → (X6 → Option D) → Option D
  | ⟨d3, i4, i5, d6⟩, rec, K => (cond (ltI i5 i4) (cond (inb i5 d3.elems.length) (bd (F49.s FUEL (ix d3.elems i5.toNat).s) fun r7 => (cond (!r7.b) (K (.e0 d3 i4 i5 d6 r7)) (cond (gtI i5 0) (cond (inb (sb .i64 i5 1) (d6.at 5).elems.length) (bd (F77.s FUEL (ix (d6.at 5).elems (sb .i64 i5 1).toNat).s (ix d3.elems i5.toNat).s) fun r8 => (cond (!r8.b) (K (.e1 d3 i4 i5 d6 r7 r8)) (rec ⟨d3, i4, (ad .i64 i5 1), d6⟩))) none) (rec ⟨d3, i4, (ad .i64 i5 1), d6⟩)))) none) (K (.e2 d3 i4 i5 d6)))
def lv6 : S6 → List Leaf
  | ⟨d3, i4, i5, d6⟩ => [.d d3, .i i4, .i i5, .d d6]
def of6 : List Leaf → Option S6
  | [.d d3, .i i4, .i i5, .d d6] => some ⟨d3, i4, i5, d6⟩
  | _ => none
def ex6 (k : Kont) : X6 → Option D
  | .e0 d3 i4 i5 d6 r7 => k .ret (us 1 ((.ptr 0 [] (.struct [3, 9, 9, 4, 3, 40])) :: ((.d .bool (db false)) :: ((.d (.int .i64) (di i5)) :: ((.d .str (ix d3.elems i5.toNat)) :: (us 45 ((.d (.slice 9) d3) :: ((.d (.int .i64) (di i4)) :: ((.d (.int .i64) (di i5)) :: ((.d .bool (db (ltI i5 i4))) :: ((.d (.int .i64) (di i5)) :: ((.cptr .str (ix d3.elems i5.toNat)) :: ((.d .str (ix d3.elems i5.toNat)) :: ((.d .str (ix d3.elems i5.toNat)) :: ((.d .bool r7) :: ((.d .bool (db (!r7.b))) :: ((.d .bool (db true)) :: ((.tup []) :: ((.tup []) :: ((.tup []) :: ((.tup []) :: ((.tup []) :: ((.tup []) :: ((.tup []) :: ((.tup []) :: ((.tup []) :: ((.tup []) :: ((.tup []) :: ((.tup []) :: ((.tup []) :: ((.d .bool (db true)) :: (us 1 [])))))))))))))))))))))))))))))))) [(.var (.struct [3, 9, 9, 4, 3, 40]) (.d (.struct [3, 9, 9, 4, 3, 40]) d6))]
  | .e1 d3 i4 i5 d6 r7 r8 => k .ret (us 1 ((.ptr 0 [] (.struct [3, 9, 9, 4, 3, 40])) :: ((.d .bool (db false)) :: ((.d (.int .i64) (di i5)) :: ((.d .str (ix d3.elems i5.toNat)) :: (us 45 ((.d (.slice 9) d3) :: ((.d (.int .i64) (di i4)) :: ((.d (.int .i64) (di i5)) :: ((.d .bool (db (ltI i5 i4))) :: ((.d (.int .i64) (di i5)) :: ((.cptr .str (ix d3.elems i5.toNat)) :: ((.d .str (ix d3.elems i5.toNat)) :: ((.d .str (ix d3.elems i5.toNat)) :: ((.d .bool r7) :: ((.d .bool (db (!r7.b))) :: ((.d .bool (db false)) :: ((.d (.int .i64) (di i5)) :: ((.d .bool (db (gtI i5 0))) :: ((.d .bool (db true)) :: ((.ptr 0 [5] (.slice 9)) :: ((.d (.slice 9) (d6.at 5)) :: ((.d (.int .i64) (di i5)) :: ((.d (.int .i64) (di (sb .i64 i5 1))) :: ((.cptr .str (ix (d6.at 5).elems (sb .i64 i5 1).toNat)) :: ((.d .str (ix (d6.at 5).elems (sb .i64 i5 1).toNat)) :: ((.d .str (ix d3.elems i5.toNat)) :: ((.d .bool r8) :: ((.d .bool (db (!r8.b))) :: ((.d .bool (db (!r8.b))) :: ((.d .bool (db (!r8.b))) :: (us 1 [])))))))))))))))))))))))))))))))) [(.var (.struct [3, 9, 9, 4, 3, 40]) (.d (.struct [3, 9, 9, 4, 3, 40]) d6))]
  | .e2 d3 i4 i5 d6 => k (.exit 0) (us 1 ((.ptr 0 [] (.struct [3, 9, 9, 4, 3, 40])) :: (us 48 ((.d (.slice 9) d3) :: ((.d (.int .i64) (di i4)) :: ((.d (.int .i64) (di i5)) :: ((.d .bool (db (ltI i5 i4))) :: (us 22 [])))))))) [(.var (.struct [3, 9, 9, 4, 3, 40]) (.d (.struct [3, 9, 9, 4, 3, 40]) d6))]
def ps6 : List PV := (up 1 ((.ptr 0 [] (.struct [3, 9, 9, 4, 3, 40])) :: (up 48 ((.d (.slice 9) .x) :: ((.d (.int .i64) (.int .i64)) :: ((.d (.int .i64) (.int .i64)) :: (up 23 [])))))))
def qs6 : List PO := [(.var (.struct [3, 9, 9, 4, 3, 40]) (.d (.struct [3, 9, 9, 4, 3, 40]) .x))]
noncomputable def sum6 (M : Nat) : Sum := sumS [1, 50, 51, 52] ps6 qs6 [] of6 (st6 M) ex6 M
theorem sok6 (M : Nat) : SumOk (loopRd (e M) 46 6) (e M) (call (e M) 11) 46 0 (loopAt (e M) 46 6) (sum6 M) :=
  sumOk_st (T := tblOf (t46_0 M)) (n0 := 1) (lv := lv6) (t46_0_ok M) (by kernel_rfl) rfl (by intro ls s h; unfold of6 at h; (repeat' split at h) <;> simp at h; subst h; rfl) (by intro s; kernel_rfl) (by intro s; kernel_rfl) (by intro s nx k; kernel_rfl)
noncomputable def t46_1 (M : Nat) : List Ent := ⟨46, 11, 0, 6, sum6 M⟩ :: t46_0 M
theorem t46_1_ok (M : Nat) : AllOk (e M) (tblOf (t46_1 M)) := (t46_0_ok M).add ⟨46, 11, 0, 6, sum6 M⟩ (by kernel_rfl) (sok6 M)
def s (M : Nat) (p0 : D) : Option D :=
  (bd (F76.s FUEL (p0.at 0).i) fun r1 => (cond (!r1.b) (some (db false)) (bd (F49.s FUEL (p0.at 1).s) fun r2 => (cond (!r2.b) (some (db false)) (cond (gtI (nI (p0.at 2).s.size) 600) (some (db false)) (cond (ltI (p0.at 4).i 0) (some (db false)) (cond (gtI (p0.at 4).i 1099511627776) (some (db false)) (cond (gtI (nI (p0.at 5).elems.length) 4) (some (db false)) (cond (!(p0.at 3).b) (cond (eqI (p0.at 4).i 0) (some (db (eqI (nI (p0.at 5).elems.length) 0))) (some (db false))) (goS (st6 M) M ⟨(p0.at 5), (nI (p0.at 5).elems.length), 0, p0⟩ fun x => match x with | .e0 d3 i4 i5 d6 r7 => (some (db false)) | .e1 d3 i4 i5 d6 r7 r8 => (some (db false)) | .e2 d3 i4 i5 d6 => (some (db true))))))))))))
theorem run (M : Nat) (p0 : D) : callS (e M) (tblOf (t46_1 M)) 12 (.fn 46) [.d (.struct [3, 9, 9, 4, 3, 40]) p0] [] (fun v H => finish ty [4] v H) = s M p0 := by kernel_rfl
noncomputable abbrev t (M : Nat) : List Ent := t46_1 M
theorem t_ok (M : Nat) : AllOk (e M) (tblOf (t M)) := t46_1_ok M
def c : Con := { run := fun ds => match ds with | [p0] => s FUEL p0 | _ => none, fresh := false, plain := true }
theorem fun_at : Tryd.prog.funcs[46]? = some Tryd.f46 := by kernel_rfl
theorem params : Tryd.f46.params.toList.map ty = [(.struct [3, 9, 9, 4, 3, 40])] := by kernel_rfl
theorem results : Tryd.f46.resultTypes.toList = [4] := by kernel_rfl
theorem flat : Tryd.f46.resultTypes.toList.all (fun t => K.flat ty 20 (ty t)) = true := by kernel_rfl
theorem ok : ConOk (46, c) := by
  intro fn hfn
  obtain rfl : Tryd.f46 = fn := Option.some.inj (fun_at.symm.trans hfn)
  refine contract_flat (n := 20) hgl (fun _ => flat) (fun ds r hh0 hr => ?_)
  rw [params] at hh0
  obtain ⟨p0, ds0, rfl, h0, hh1⟩ := hass_cons hh0
  obtain rfl := hass_nil hh1
  refine ⟨e FUEL, DEPTH, tblOf (t FUEL), envOk (allCons F49.ok (allCons F76.ok (allCons F77.ok allNil))) allNil, rfl, t_ok FUEL, ?_⟩
  rw [params, results]
  exact (run FUEL p0).trans hr
end F46
namespace F27
def cons : List (Nat × Con) := [(21, F21.c), (45, F45.c), (46, F46.c)]
def exts : List (Nat × Ext) := []
def h : List (Nat × Nat × Hint) := [(27, 4, { live := [1, 22, 23, 24], rows := [], own := false, inpl := false })]
noncomputable def e (M : Nat) : Env := env cons exts h M
noncomputable def t27_0 (_ : Nat) : List Ent := []
theorem t27_0_ok (M : Nat) : AllOk (e M) (tblOf (t27_0 M)) := AllOk.nil
structure S4 where
  d3 : D
  i4 : Int
  i5 : Int
  d6 : D
inductive X4 where
  | e0 (d3 : D) (i4 : Int) (i5 : Int) (d6 : D) (r7 : D)
  | e1 (d3 : D) (i4 : Int) (i5 : Int) (d6 : D) (r7 : D)
  | e2 (d3 : D) (i4 : Int) (i5 : Int) (d6 : D) (r7 : D) (r8 : D)
  | e3 (d3 : D) (i4 : Int) (i5 : Int) (d6 : D) (r7 : D) (r8 : D)
  | e4 (d3 : D) (i4 : Int) (i5 : Int) (d6 : D)
def st4 (M : Nat) : S4 → (S4 → Option D) → (X4 → Option D) → Option D
  | ⟨d3, i4, i5, d6⟩, rec, K => (cond (ltI i5 i4) (cond (inb i5 d3.elems.length) (bd (F46.s FUEL (ix d3.elems i5.toNat)) fun r7 => (cond (!r7.b) (K (.e0 d3 i4 i5 d6 r7)) (cond (gtI ((ix d3.elems i5.toNat).at 0).i (d6.at 1).i) (K (.e1 d3 i4 i5 d6 r7)) (bd (F21.s FUEL d6 ((ix d3.elems i5.toNat).at 1).s) fun r8 => (cond (neI r8.i i5) (K (.e2 d3 i4 i5 d6 r7 r8)) (cond (gtI i5 0) (cond (inb (sb .i64 i5 1) (d6.at 0).elems.length) (cond (geI ((ix (d6.at 0).elems (sb .i64 i5 1).toNat).at 0).i ((ix d3.elems i5.toNat).at 0).i) (K (.e3 d3 i4 i5 d6 r7 r8)) (rec ⟨d3, i4, (ad .i64 i5 1), d6⟩)) none) (rec ⟨d3, i4, (ad .i64 i5 1), d6⟩))))))) none) (K (.e4 d3 i4 i5 d6)))
def lv4 : S4 → List Leaf
  | ⟨d3, i4, i5, d6⟩ => [.d d3, .i i4, .i i5, .d d6]
def of4 : List Leaf → Option S4
  | [.d d3, .i i4, .i i5, .d d6] => some ⟨d3, i4, i5, d6⟩
  | _ => none
def ex4 (k : Kont) : X4 → Option D
  | .e0 d3 i4 i5 d6 r7 => k .ret (us 1 ((.ptr 0 [] (.struct [49, 3, 3])) :: ((.d .bool (db false)) :: ((.d (.int .i64) (di i5)) :: ((.ptr 1 [] (.struct [3, 9, 9, 4, 3, 40])) :: (us 17 ((.d (.slice 42) d3) :: ((.d (.int .i64) (di i4)) :: ((.d (.int .i64) (di i5)) :: ((.d .bool (db (ltI i5 i4))) :: ((.d (.int .i64) (di i5)) :: ((.cptr (.struct [3, 9, 9, 4, 3, 40]) (ix d3.elems i5.toNat)) :: ((.d (.struct [3, 9, 9, 4, 3, 40]) (ix d3.elems i5.toNat)) :: ((.d (.struct [3, 9, 9, 4, 3, 40]) (ix d3.elems i5.toNat)) :: ((.d .bool r7) :: ((.d .bool (db (!r7.b))) :: ((.d .bool (db true)) :: ((.tup []) :: ((.tup []) :: ((.tup []) :: ((.tup []) :: ((.tup []) :: ((.d .bool (db true)) :: ((.d .bool (db true)) :: ((.tup []) :: ((.tup []) :: ((.tup []) :: ((.tup []) :: ((.tup []) :: ((.tup []) :: ((.d .bool (db true)) :: ((.d .bool (db true)) :: ((.tup []) :: ((.tup []) :: ((.tup []) :: ((.tup []) :: ((.tup []) :: ((.tup []) :: ((.tup []) :: ((.tup []) :: ((.tup []) :: ((.tup []) :: ((.tup []) :: ((.tup []) :: ((.tup []) :: ((.tup []) :: ((.d .bool (db true)) :: (us 1 [])))))))))))))))))))))))))))))))))))))))))))))))) [(.var (.struct [49, 3, 3]) (.d (.struct [49, 3, 3]) d6)), (.var (.struct [3, 9, 9, 4, 3, 40]) (.d (.struct [3, 9, 9, 4, 3, 40]) (ix d3.elems i5.toNat)))]
  | .e1 d3 i4 i5 d6 r7 => k .ret (us 1 ((.ptr 0 [] (.struct [49, 3, 3])) :: ((.d .bool (db false)) :: ((.d (.int .i64) (di i5)) :: ((.ptr 1 [] (.struct [3, 9, 9, 4, 3, 40])) :: (us 17 ((.d (.slice 42) d3) :: ((.d (.int .i64) (di i4)) :: ((.d (.int .i64) (di i5)) :: ((.d .bool (db (ltI i5 i4))) :: ((.d (.int .i64) (di i5)) :: ((.cptr (.struct [3, 9, 9, 4, 3, 40]) (ix d3.elems i5.toNat)) :: ((.d (.struct [3, 9, 9, 4, 3, 40]) (ix d3.elems i5.toNat)) :: ((.d (.struct [3, 9, 9, 4, 3, 40]) (ix d3.elems i5.toNat)) :: ((.d .bool r7) :: ((.d .bool (db (!r7.b))) :: ((.d .bool (db false)) :: ((.ptr 1 [0] (.int .i64)) :: ((.d (.int .i64) ((ix d3.elems i5.toNat).at 0)) :: ((.ptr 0 [1] (.int .i64)) :: ((.d (.int .i64) (d6.at 1)) :: ((.d .bool (db (gtI ((ix d3.elems i5.toNat).at 0).i (d6.at 1).i))) :: ((.d .bool (db (gtI ((ix d3.elems i5.toNat).at 0).i (d6.at 1).i))) :: ((.d .bool (db true)) :: ((.tup []) :: ((.tup []) :: ((.tup []) :: ((.tup []) :: ((.tup []) :: ((.tup []) :: ((.d .bool (db true)) :: ((.d .bool (db true)) :: ((.tup []) :: ((.tup []) :: ((.tup []) :: ((.tup []) :: ((.tup []) :: ((.tup []) :: ((.tup []) :: ((.tup []) :: ((.tup []) :: ((.tup []) :: ((.tup []) :: ((.tup []) :: ((.tup []) :: ((.tup []) :: ((.d .bool (db true)) :: (us 1 [])))))))))))))))))))))))))))))))))))))))))))))))) [(.var (.struct [49, 3, 3]) (.d (.struct [49, 3, 3]) d6)), (.var (.struct [3, 9, 9, 4, 3, 40]) (.d (.struct [3, 9, 9, 4, 3, 40]) (ix d3.elems i5.toNat)))]
  | .e2 d3 i4 i5 d6 r7 r8 => k .ret (us 1 ((.ptr 0 [] (.struct [49, 3, 3])) :: ((.d .bool (db false)) :: ((.d (.int .i64) (di i5)) :: ((.ptr 1 [] (.struct [3, 9, 9, 4, 3, 40])) :: (us 17 ((.d (.slice 42) d3) :: ((.d (.int .i64) (di i4)) :: ((.d (.int .i64) (di i5)) :: ((.d .bool (db (ltI i5 i4))) :: ((.d (.int .i64) (di i5)) :: ((.cptr (.struct [3, 9, 9, 4, 3, 40]) (ix d3.elems i5.toNat)) :: ((.d (.struct [3, 9, 9, 4, 3, 40]) (ix d3.elems i5.toNat)) :: ((.d (.struct [3, 9, 9, 4, 3, 40]) (ix d3.elems i5.toNat)) :: ((.d .bool r7) :: ((.d .bool (db (!r7.b))) :: ((.d .bool (db false)) :: ((.ptr 1 [0] (.int .i64)) :: ((.d (.int .i64) ((ix d3.elems i5.toNat).at 0)) :: ((.ptr 0 [1] (.int .i64)) :: ((.d (.int .i64) (d6.at 1)) :: ((.d .bool (db (gtI ((ix d3.elems i5.toNat).at 0).i (d6.at 1).i))) :: ((.d .bool (db (gtI ((ix d3.elems i5.toNat).at 0).i (d6.at 1).i))) :: ((.d .bool (db false)) :: ((.d (.struct [49, 3, 3]) d6) :: ((.ptr 1 [1] .str) :: ((.d .str ((ix d3.elems i5.toNat).at 1)) :: ((.d (.int .i64) r8) :: ((.d (.int .i64) (di i5)) :: ((.d .bool (db (neI r8.i i5))) :: ((.d .bool (db (neI r8.i i5))) :: ((.d .bool (db true)) :: ((.tup []) :: ((.tup []) :: ((.tup []) :: ((.tup []) :: ((.tup []) :: ((.tup []) :: ((.tup []) :: ((.tup []) :: ((.tup []) :: ((.tup []) :: ((.tup []) :: ((.tup []) :: ((.tup []) :: ((.tup []) :: ((.d .bool (db true)) :: (us 1 [])))))))))))))))))))))))))))))))))))))))))))))))) [(.var (.struct [49, 3, 3]) (.d (.struct [49, 3, 3]) d6)), (.var (.struct [3, 9, 9, 4, 3, 40]) (.d (.struct [3, 9, 9, 4, 3, 40]) (ix d3.elems i5.toNat)))]
  | .e3 d3 i4 i5 d6 r7 r8 => k .ret (us 1 ((.ptr 0 [] (.struct [49, 3, 3])) :: ((.d .bool (db false)) :: ((.d (.int .i64) (di i5)) :: ((.ptr 1 [] (.struct [3, 9, 9, 4, 3, 40])) :: (us 17 ((.d (.slice 42) d3) :: ((.d (.int .i64) (di i4)) :: ((.d (.int .i64) (di i5)) :: ((.d .bool (db (ltI i5 i4))) :: ((.d (.int .i64) (di i5)) :: ((.cptr (.struct [3, 9, 9, 4, 3, 40]) (ix d3.elems i5.toNat)) :: ((.d (.struct [3, 9, 9, 4, 3, 40]) (ix d3.elems i5.toNat)) :: ((.d (.struct [3, 9, 9, 4, 3, 40]) (ix d3.elems i5.toNat)) :: ((.d .bool r7) :: ((.d .bool (db (!r7.b))) :: ((.d .bool (db false)) :: ((.ptr 1 [0] (.int .i64)) :: ((.d (.int .i64) ((ix d3.elems i5.toNat).at 0)) :: ((.ptr 0 [1] (.int .i64)) :: ((.d (.int .i64) (d6.at 1)) :: ((.d .bool (db (gtI ((ix d3.elems i5.toNat).at 0).i (d6.at 1).i))) :: ((.d .bool (db (gtI ((ix d3.elems i5.toNat).at 0).i (d6.at 1).i))) :: ((.d .bool (db false)) :: ((.d (.struct [49, 3, 3]) d6) :: ((.ptr 1 [1] .str) :: ((.d .str ((ix d3.elems i5.toNat).at 1)) :: ((.d (.int .i64) r8) :: ((.d (.int .i64) (di i5)) :: ((.d .bool (db (neI r8.i i5))) :: ((.d .bool (db (neI r8.i i5))) :: ((.d .bool (db false)) :: ((.d (.int .i64) (di i5)) :: ((.d .bool (db (gtI i5 0))) :: ((.d .bool (db true)) :: ((.ptr 0 [0] (.slice 42)) :: ((.d (.slice 42) (d6.at 0)) :: ((.d (.int .i64) (di i5)) :: ((.d (.int .i64) (di (sb .i64 i5 1))) :: ((.cptr (.struct [3, 9, 9, 4, 3, 40]) (ix (d6.at 0).elems (sb .i64 i5 1).toNat)) :: ((.cptr (.int .i64) ((ix (d6.at 0).elems (sb .i64 i5 1).toNat).at 0)) :: ((.d (.int .i64) ((ix (d6.at 0).elems (sb .i64 i5 1).toNat).at 0)) :: ((.ptr 1 [0] (.int .i64)) :: ((.d (.int .i64) ((ix d3.elems i5.toNat).at 0)) :: ((.d .bool (db (geI ((ix (d6.at 0).elems (sb .i64 i5 1).toNat).at 0).i ((ix d3.elems i5.toNat).at 0).i))) :: ((.d .bool (db (geI ((ix (d6.at 0).elems (sb .i64 i5 1).toNat).at 0).i ((ix d3.elems i5.toNat).at 0).i))) :: ((.d .bool (db (geI ((ix (d6.at 0).elems (sb .i64 i5 1).toNat).at 0).i ((ix d3.elems i5.toNat).at 0).i))) :: (us 1 [])))))))))))))))))))))))))))))))))))))))))))))))) [(.var (.struct [49, 3, 3]) (.d (.struct [49, 3, 3]) d6)), (.var (.struct [3, 9, 9, 4, 3, 40]) (.d (.struct [3, 9, 9, 4, 3, 40]) (ix d3.elems i5.toNat)))]
  | .e4 d3 i4 i5 d6 => k (.exit 0) (us 1 ((.ptr 0 [] (.struct [49, 3, 3])) :: (us 20 ((.d (.slice 42) d3) :: ((.d (.int .i64) (di i4)) :: ((.d (.int .i64) (di i5)) :: ((.d .bool (db (ltI i5 i4))) :: (us 38 [])))))))) [(.var (.struct [49, 3, 3]) (.d (.struct [49, 3, 3]) d6))]
def ps4 : List PV := (up 1 ((.ptr 0 [] (.struct [49, 3, 3])) :: (up 20 ((.d (.slice 42) .x) :: ((.d (.int .i64) (.int .i64)) :: ((.d (.int .i64) (.int .i64)) :: (up 39 [])))))))
def qs4 : List PO := [(.var (.struct [49, 3, 3]) (.d (.struct [49, 3, 3]) .x))]
noncomputable def sum4 (M : Nat) : Sum := sumS [1, 22, 23, 24] ps4 qs4 [] of4 (st4 M) ex4 M
theorem sok4 (M : Nat) : SumOk (loopRd (e M) 27 4) (e M) (call (e M) 11) 27 0 (loopAt (e M) 27 4) (sum4 M) :=
  sumOk_st (T := tblOf (t27_0 M)) (n0 := 1) (lv := lv4) (t27_0_ok M) (by kernel_rfl) rfl (by intro ls s h; unfold of4 at h; (repeat' split at h) <;> simp at h; subst h; rfl) (by intro s; kernel_rfl) (by intro s; kernel_rfl) (by intro s nx k; kernel_rfl)
noncomputable def t27_1 (M : Nat) : List Ent := ⟨27, 11, 0, 4, sum4 M⟩ :: t27_0 M
theorem t27_1_ok (M : Nat) : AllOk (e M) (tblOf (t27_1 M)) := (t27_0_ok M).add ⟨27, 11, 0, 4, sum4 M⟩ (by kernel_rfl) (sok4 M)
def s (M : Nat) (p0 : D) : Option D :=
  (cond (gtI (nI (p0.at 0).elems.length) 12) (some (db false)) (bd (F45.s FUEL (p0.at 1).i 1099511627776) fun r1 => (cond (!r1.b) (some (db false)) (bd (F45.s FUEL (p0.at 2).i 1099511627776) fun r2 => (cond (!r2.b) (some (db false)) (goS (st4 M) M ⟨(p0.at 0), (nI (p0.at 0).elems.length), 0, p0⟩ fun x => match x with | .e0 d3 i4 i5 d6 r7 => (some (db false)) | .e1 d3 i4 i5 d6 r7 => (some (db false)) | .e2 d3 i4 i5 d6 r7 r8 => (some (db false)) | .e3 d3 i4 i5 d6 r7 r8 => (some (db false)) | .e4 d3 i4 i5 d6 => (some (db true))))))))
theorem run (M : Nat) (p0 : D) : callS (e M) (tblOf (t27_1 M)) 12 (.fn 27) [.d (.struct [49, 3, 3]) p0] [] (fun v H => finish ty [4] v H) = s M p0 := by kernel_rfl
noncomputable abbrev t (M : Nat) : List Ent := t27_1 M
theorem t_ok (M : Nat) : AllOk (e M) (tblOf (t M)) := t27_1_ok M
def c : Con := { run := fun ds => match ds with | [p0] => s FUEL p0 | _ => none, fresh := false, plain := true }
theorem fun_at : Tryd.prog.funcs[27]? = some Tryd.f27 := by kernel_rfl
theorem params : Tryd.f27.params.toList.map ty = [(.struct [49, 3, 3])] := by kernel_rfl
theorem results : Tryd.f27.resultTypes.toList = [4] := by kernel_rfl
theorem flat : Tryd.f27.resultTypes.toList.all (fun t => K.flat ty 20 (ty t)) = true := by kernel_rfl
theorem ok : ConOk (27, c) := by
  intro fn hfn
  obtain rfl : Tryd.f27 = fn := Option.some.inj (fun_at.symm.trans hfn)
  refine contract_flat (n := 20) hgl (fun _ => flat) (fun ds r hh0 hr => ?_)
  rw [params] at hh0
  obtain ⟨p0, ds0, rfl, h0, hh1⟩ := hass_cons hh0
  obtain rfl := hass_nil hh1
  refine ⟨e FUEL, DEPTH, tblOf (t FUEL), envOk (allCons F21.ok (allCons F45.ok (allCons F46.ok allNil))) allNil, rfl, t_ok FUEL, ?_⟩
  rw [params, results]
  exact (run FUEL p0).trans hr
end F27
namespace F25
def cons : List (Nat × Con) := [(32, F32.c)]
def exts : List (Nat × Ext) := []
def h : List (Nat × Nat × Hint) := [(43, 4, { live := [1, 2, 15, 16, 17], rows := [], own := false, inpl := false })]
noncomputable def e (M : Nat) : Env := env cons exts h M
noncomputable def t25_0 (_ : Nat) : List Ent := []
theorem t25_0_ok (M : Nat) : AllOk (e M) (tblOf (t25_0 M)) := AllOk.nil
structure S43_4 where
  d1 : D
  d2 : D
  i3 : Int
  i4 : Int
  d5 : D
  d6 : D
inductive X43_4 where
  | e0 (d1 : D) (d2 : D) (i3 : Int) (i4 : Int) (d5 : D) (d6 : D) (r7 : D)
  | e1 (d1 : D) (d2 : D) (i3 : Int) (i4 : Int) (d5 : D) (d6 : D)
def st43_4 (M : Nat) : S43_4 → (S43_4 → Option D) → (X43_4 → Option D) → Option D
  | ⟨d1, d2, i3, i4, d5, d6⟩, rec, K => (cond (ltI i4 i3) (cond (inb i4 d2.elems.length) (cond (inb i4 d1.elems.length) (bd (F32.s FUEL (ix d2.elems i4.toNat) (ix d1.elems i4.toNat)) fun r7 => (cond (!r7.b) (K (.e0 d1 d2 i3 i4 d5 d6 r7)) (rec ⟨d1, d2, i3, (ad .i64 i4 1), d5, d6⟩))) none) none) (K (.e1 d1 d2 i3 i4 d5 d6)))
def lv43_4 : S43_4 → List Leaf
  | ⟨d1, d2, i3, i4, d5, d6⟩ => [.d d1, .d d2, .i i3, .i i4, .d d5, .d d6]
def of43_4 : List Leaf → Option S43_4
  | [.d d1, .d d2, .i i3, .i i4, .d d5, .d d6] => some ⟨d1, d2, i3, i4, d5, d6⟩
  | _ => none
def ex43_4 (k : Kont) : X43_4 → Option D
  | .e0 d1 d2 i3 i4 d5 d6 r7 => k .ret (us 1 ((.d (.slice 42) d1) :: ((.d .func (D.fn 32)) :: (us 3 ((.d .bool (db false)) :: ((.d (.int .i64) (di i4)) :: ((.ptr 2 [] (.struct [3, 9, 9, 4, 3, 40])) :: ((.ptr 3 [] (.struct [3, 9, 9, 4, 3, 40])) :: (us 5 ((.d (.slice 42) d2) :: ((.d (.int .i64) (di i3)) :: ((.d (.int .i64) (di i4)) :: ((.d .bool (db (ltI i4 i3))) :: ((.d (.int .i64) (di i4)) :: ((.cptr (.struct [3, 9, 9, 4, 3, 40]) (ix d2.elems i4.toNat)) :: ((.d (.struct [3, 9, 9, 4, 3, 40]) (ix d2.elems i4.toNat)) :: ((.d (.slice 42) d1) :: ((.d (.int .i64) (di i4)) :: ((.cptr (.struct [3, 9, 9, 4, 3, 40]) (ix d1.elems i4.toNat)) :: ((.d (.struct [3, 9, 9, 4, 3, 40]) (ix d1.elems i4.toNat)) :: ((.d .func (D.fn 32)) :: ((.d (.struct [3, 9, 9, 4, 3, 40]) (ix d2.elems i4.toNat)) :: ((.d (.struct [3, 9, 9, 4, 3, 40]) (ix d1.elems i4.toNat)) :: ((.d .bool r7) :: ((.d .bool (db (!r7.b))) :: (us 1 [])))))))))))))))))))))))))) [(.var (.struct [49, 3, 3]) (.d (.struct [49, 3, 3]) d5)), (.var (.struct [49, 3, 3]) (.d (.struct [49, 3, 3]) d6)), (.var (.struct [3, 9, 9, 4, 3, 40]) (.d (.struct [3, 9, 9, 4, 3, 40]) (ix d2.elems i4.toNat))), (.var (.struct [3, 9, 9, 4, 3, 40]) (.d (.struct [3, 9, 9, 4, 3, 40]) (ix d1.elems i4.toNat)))]
  | .e1 d1 d2 i3 i4 d5 d6 => k (.exit 0) (us 1 ((.d (.slice 42) d1) :: ((.d .func (D.fn 32)) :: (us 12 ((.d (.slice 42) d2) :: ((.d (.int .i64) (di i3)) :: ((.d (.int .i64) (di i4)) :: ((.d .bool (db (ltI i4 i3))) :: (us 13 []))))))))) [(.var (.struct [49, 3, 3]) (.d (.struct [49, 3, 3]) d5)), (.var (.struct [49, 3, 3]) (.d (.struct [49, 3, 3]) d6))]
def ps43_4 : List PV := (up 1 ((.d (.slice 42) .x) :: ((.d .func (.fn 32)) :: (up 12 ((.d (.slice 42) .x) :: ((.d (.int .i64) (.int .i64)) :: ((.d (.int .i64) (.int .i64)) :: (up 14 []))))))))
def qs43_4 : List PO := [(.var (.struct [49, 3, 3]) (.d (.struct [49, 3, 3]) .x)), (.var (.struct [49, 3, 3]) (.d (.struct [49, 3, 3]) .x))]
noncomputable def sum43_4 (M : Nat) : Sum := sumS [1, 2, 15, 16, 17] ps43_4 qs43_4 [] of43_4 (st43_4 M) ex43_4 M
theorem sok43_4 (M : Nat) : SumOk (loopRd (e M) 43 4) (e M) (call (e M) 10) 43 2 (loopAt (e M) 43 4) (sum43_4 M) :=
  sumOk_st (T := tblOf (t25_0 M)) (n0 := 2) (lv := lv43_4) (t25_0_ok M) (by kernel_rfl) rfl (by intro ls s h; unfold of43_4 at h; (repeat' split at h) <;> simp at h; subst h; rfl) (by intro s; kernel_rfl) (by intro s; kernel_rfl) (by intro s nx k; kernel_rfl)
noncomputable def t25_1 (M : Nat) : List Ent := ⟨43, 10, 2, 4, sum43_4 M⟩ :: t25_0 M
theorem t25_1_ok (M : Nat) : AllOk (e M) (tblOf (t25_1 M)) := (t25_0_ok M).add ⟨43, 10, 2, 4, sum43_4 M⟩ (by kernel_rfl) (sok43_4 M)
def s (M : Nat) (p0 : D) (p1 : D) : Option D :=
  (cond (eqI (p0.at 1).i (p1.at 1).i) (cond (eqI (p0.at 2).i (p1.at 2).i) (cond (neI (nI (p0.at 0).elems.length) (nI (p1.at 0).elems.length)) (some (db false)) (goS (st43_4 M) M ⟨(p1.at 0), (p0.at 0), (nI (p0.at 0).elems.length), 0, p0, p1⟩ fun x => match x with | .e0 d1 d2 i3 i4 d5 d6 r7 => (some (db false)) | .e1 d1 d2 i3 i4 d5 d6 => (some (db true)))) (some (db false))) (some (db false)))
theorem run (M : Nat) (p0 : D) (p1 : D) : callS (e M) (tblOf (t25_1 M)) 12 (.fn 25) [.d (.struct [49, 3, 3]) p0, .d (.struct [49, 3, 3]) p1] [] (fun v H => finish ty [4] v H) = s M p0 p1 := by kernel_rfl
noncomputable abbrev t (M : Nat) : List Ent := t25_1 M
theorem t_ok (M : Nat) : AllOk (e M) (tblOf (t M)) := t25_1_ok M
def c : Con := { run := fun ds => match ds with | [p0, p1] => s FUEL p0 p1 | _ => none, fresh := false, plain := true }
theorem fun_at : Tryd.prog.funcs[25]? = some Tryd.f25 := by kernel_rfl
theorem params : Tryd.f25.params.toList.map ty = [(.struct [49, 3, 3]), (.struct [49, 3, 3])] := by kernel_rfl
theorem results : Tryd.f25.resultTypes.toList = [4] := by kernel_rfl
theorem flat : Tryd.f25.resultTypes.toList.all (fun t => K.flat ty 20 (ty t)) = true := by kernel_rfl
theorem ok : ConOk (25, c) := by
  intro fn hfn
  obtain rfl : Tryd.f25 = fn := Option.some.inj (fun_at.symm.trans hfn)
  refine contract_flat (n := 20) hgl (fun _ => flat) (fun ds r hh0 hr => ?_)
  rw [params] at hh0
  obtain ⟨p0, ds0, rfl, h0, hh1⟩ := hass_cons hh0
  obtain ⟨p1, ds1, rfl, h1, hh2⟩ := hass_cons hh1
  obtain rfl := hass_nil hh2
  refine ⟨e FUEL, DEPTH, tblOf (t FUEL), envOk (allCons F32.ok allNil) allNil, rfl, t_ok FUEL, ?_⟩
  rw [params, results]
  exact (run FUEL p0 p1).trans hr
end F25
namespace F17
def cons : List (Nat × Con) := [(19, F19.c), (20, F20.c), (21, F21.c), (25, F25.c), (27, F27.c)]
def exts : List (Nat × Ext) := []
def h : List (Nat × Nat × Hint) := []
noncomputable def e (M : Nat) : Env := env cons exts h M
noncomputable def t17_0 (_ : Nat) : List Ent := []
theorem t17_0_ok (M : Nat) : AllOk (e M) (tblOf (t17_0 M)) := AllOk.nil
def s (M : Nat)  : Option D :=
  (bd (F19.s FUEL (da [(dl false []), (di 0), (di 0)]) (dl true [(da [(di 0), (dS (bs [97])), (dS (bs [])), (di 0), (di 0), (di 0)]), (da [(di 1), (dS (bs [97])), (dS (bs [97, 98])), (di 0), (di 0), (di 0)]), (da [(di 2), (dS (bs [97])), (dS (bs [])), (di 5), (di 0), (di 0)]), (da [(di 7), (dS (bs [])), (dS (bs [])), (di 5), (di 0), (di 0)])])) fun r1 => (cond (neI (nI (r1.at 1).elems.length) 4) (some (db false)) (cond (neI (nI (r1.at 2).elems.length) 4) (some (db false)) (bd (F21.s FUEL (r1.at 0) (bs [97])) fun r2 => (cond (neI r2.i 0) (some (db false)) (bd (F20.s FUEL (r1.at 0) (da [(di 9), (dS (bs [97])), (dS (bs [])), (di 0), (di 0), (di 2)])) fun r3 => (bd (F20.s FUEL (r1.at 0) (da [(di 8), (dS (bs [])), (dS (bs [])), (di 0), (di 0), (di 0)])) fun r4 => (cond (inb 0 (r1.at 1).elems.length) (cond (eqI ((ix (r1.at 1).elems 0).at 1).i 1) (cond (inb 1 (r1.at 1).elems.length) (cond (eqI ((ix (r1.at 1).elems 1).at 1).i 2) (cond (inb 3 (r1.at 1).elems.length) (cond (eqI ((ix (r1.at 1).elems 3).at 1).i 5) (cond (eqS ((r3.at 1).at 2).s (bs [97, 98])) (cond (eqI ((r4.at 1).at 1).i 1) (cond (eqI (nI (r4.at 2).elems.length) 1) (cond (inb 0 (r4.at 2).elems.length) (bd (match D.eqv ty eqDepth (ix (r4.at 2).elems 0) (da [(di 6), (di 1), (dS (bs [])), (di 0), (di 0), (da (rp 32 (D.int .u8 0)))]) (.struct [34, 3, 9, 3, 3, 36]) with | some z => some (.bool z) | none => none) fun r5 => (cond r5.b (cond (eqI (nI ((r4.at 0).at 0).elems.length) 0) (cond (eqI ((r4.at 0).at 1).i 1) (cond (eqI ((r4.at 0).at 2).i 5) (bd (F27.s FUEL (r1.at 0)) fun r6 => (cond r6.b (bd (F25.s FUEL (r1.at 0) (r1.at 0)) fun r7 => (cond r7.b (bd (F25.s FUEL (r1.at 0) (r4.at 0)) fun r8 => (some (db (!r8.b)))) (some (db false)))) (some (db false)))) (some (db false))) (some (db false))) (some (db false))) (some (db false)))) none) (some (db false))) (some (db false))) (some (db false))) (some (db false))) none) (some (db false))) none) (some (db false))) none))))))))
theorem run (M : Nat)  : callS (e M) (tblOf (t17_0 M)) 12 (.fn 17) [] [] (fun v H => finish ty [4] v H) = s M  := by kernel_rfl
noncomputable abbrev t (M : Nat) : List Ent := t17_0 M
theorem t_ok (M : Nat) : AllOk (e M) (tblOf (t M)) := t17_0_ok M
def c : Con := { run := fun ds => match ds with | [] => s FUEL  | _ => none, fresh := false, plain := true }
theorem fun_at : Tryd.prog.funcs[17]? = some Tryd.f17 := by kernel_rfl
theorem params : Tryd.f17.params.toList.map ty = [] := by kernel_rfl
theorem results : Tryd.f17.resultTypes.toList = [4] := by kernel_rfl
theorem flat : Tryd.f17.resultTypes.toList.all (fun t => K.flat ty 20 (ty t)) = true := by kernel_rfl
theorem ok : ConOk (17, c) := by
  intro fn hfn
  obtain rfl : Tryd.f17 = fn := Option.some.inj (fun_at.symm.trans hfn)
  refine contract_flat (n := 20) hgl (fun _ => flat) (fun ds r hh0 hr => ?_)
  rw [params] at hh0
  obtain rfl := hass_nil hh0
  refine ⟨e FUEL, DEPTH, tblOf (t FUEL), envOk (allCons F19.ok (allCons F20.ok (allCons F21.ok (allCons F25.ok (allCons F27.ok allNil))))) allNil, rfl, t_ok FUEL, ?_⟩
  rw [params, results]
  exact (run FUEL ).trans hr
end F17
namespace F18
def cons : List (Nat × Con) := []
def exts : List (Nat × Ext) := []
def h : List (Nat × Nat × Hint) := [(18, 2, { live := [0, 3], rows := [], own := false, inpl := false })]
noncomputable def e (M : Nat) : Env := env cons exts h M
noncomputable def t18_0 (_ : Nat) : List Ent := []
theorem t18_0_ok (M : Nat) : AllOk (e M) (tblOf (t18_0 M)) := AllOk.nil
structure S2 where
  d1 : D
  i2 : Int
inductive X2 where
  | e0 (d1 : D) (i2 : Int)
  | e1 (d1 : D) (i2 : Int)
  | e2 (d1 : D) (i2 : Int)
  | e3 (d1 : D) (i2 : Int)
def st2 (M : Nat) : S2 → (S2 → Option D) → (X2 → Option D) → Option D
  | ⟨d1, i2⟩, rec, K => (cond (ltI i2 (nI d1.elems.length)) (cond (leI i2 30) (cond (inb i2 d1.elems.length) (cond (gtI (nI ((ix d1.elems i2.toNat).at 2).s.size) 700) (K (.e0 d1 i2)) (cond (inb i2 d1.elems.length) (cond (gtI (nI ((ix d1.elems i2.toNat).at 1).s.size) 200) (K (.e1 d1 i2)) (rec ⟨d1, (ad .i64 i2 1)⟩)) none)) none) (K (.e2 d1 i2))) (K (.e3 d1 i2)))
def lv2 : S2 → List Leaf
  | ⟨d1, i2⟩ => [.d d1, .i i2]
def of2 : List Leaf → Option S2
  | [.d d1, .i i2] => some ⟨d1, i2⟩
  | _ => none
def ex2 (k : Kont) : X2 → Option D
  | .e0 d1 i2 => k .ret ((.d (.slice 47) d1) :: (us 1 ((.d .bool (db false)) :: ((.d (.int .i64) (di i2)) :: ((.d (.int .i64) (di i2)) :: ((.d (.slice 47) d1) :: ((.d (.int .i64) (di (nI d1.elems.length))) :: ((.d .bool (db (ltI i2 (nI d1.elems.length)))) :: ((.d .bool (db true)) :: ((.d (.int .i64) (di i2)) :: ((.d .bool (db (leI i2 30))) :: ((.d .bool (db (leI i2 30))) :: (us 2 ((.d (.slice 47) d1) :: ((.d (.int .i64) (di i2)) :: ((.cptr (.struct [34, 9, 9, 3, 3, 3]) (ix d1.elems i2.toNat)) :: ((.cptr .str ((ix d1.elems i2.toNat).at 2)) :: ((.d .str ((ix d1.elems i2.toNat).at 2)) :: ((.d (.int .i64) (di (nI ((ix d1.elems i2.toNat).at 2).s.size))) :: ((.d .bool (db (gtI (nI ((ix d1.elems i2.toNat).at 2).s.size) 700))) :: ((.d .bool (db true)) :: ((.tup []) :: ((.tup []) :: ((.tup []) :: ((.tup []) :: ((.tup []) :: ((.tup []) :: ((.tup []) :: ((.d .bool (db true)) :: (us 3 [])))))))))))))))))))))))))))))) []
  | .e1 d1 i2 => k .ret ((.d (.slice 47) d1) :: (us 1 ((.d .bool (db false)) :: ((.d (.int .i64) (di i2)) :: ((.d (.int .i64) (di i2)) :: ((.d (.slice 47) d1) :: ((.d (.int .i64) (di (nI d1.elems.length))) :: ((.d .bool (db (ltI i2 (nI d1.elems.length)))) :: ((.d .bool (db true)) :: ((.d (.int .i64) (di i2)) :: ((.d .bool (db (leI i2 30))) :: ((.d .bool (db (leI i2 30))) :: (us 2 ((.d (.slice 47) d1) :: ((.d (.int .i64) (di i2)) :: ((.cptr (.struct [34, 9, 9, 3, 3, 3]) (ix d1.elems i2.toNat)) :: ((.cptr .str ((ix d1.elems i2.toNat).at 2)) :: ((.d .str ((ix d1.elems i2.toNat).at 2)) :: ((.d (.int .i64) (di (nI ((ix d1.elems i2.toNat).at 2).s.size))) :: ((.d .bool (db (gtI (nI ((ix d1.elems i2.toNat).at 2).s.size) 700))) :: ((.d .bool (db false)) :: ((.d (.slice 47) d1) :: ((.d (.int .i64) (di i2)) :: ((.cptr (.struct [34, 9, 9, 3, 3, 3]) (ix d1.elems i2.toNat)) :: ((.cptr .str ((ix d1.elems i2.toNat).at 1)) :: ((.d .str ((ix d1.elems i2.toNat).at 1)) :: ((.d (.int .i64) (di (nI ((ix d1.elems i2.toNat).at 1).s.size))) :: ((.d .bool (db (gtI (nI ((ix d1.elems i2.toNat).at 1).s.size) 200))) :: ((.d .bool (db (gtI (nI ((ix d1.elems i2.toNat).at 1).s.size) 200))) :: (us 3 [])))))))))))))))))))))))))))))) []
  | .e2 d1 i2 => k (.exit 0) ((.d (.slice 47) d1) :: (us 2 ((.d (.int .i64) (di i2)) :: ((.d (.int .i64) (di i2)) :: ((.d (.slice 47) d1) :: ((.d (.int .i64) (di (nI d1.elems.length))) :: ((.d .bool (db (ltI i2 (nI d1.elems.length)))) :: ((.d .bool (db true)) :: ((.d (.int .i64) (di i2)) :: ((.d .bool (db (leI i2 30))) :: ((.d .bool (db (leI i2 30))) :: (us 21 [])))))))))))) []
  | .e3 d1 i2 => k (.exit 0) ((.d (.slice 47) d1) :: (us 2 ((.d (.int .i64) (di i2)) :: ((.d (.int .i64) (di i2)) :: ((.d (.slice 47) d1) :: ((.d (.int .i64) (di (nI d1.elems.length))) :: ((.d .bool (db (ltI i2 (nI d1.elems.length)))) :: ((.d .bool (db false)) :: ((.tup []) :: ((.tup []) :: ((.d .bool (db false)) :: (us 21 [])))))))))))) []
def ps2 : List PV := ((.d (.slice 47) .x) :: (up 2 ((.d (.int .i64) (.int .i64)) :: (up 29 []))))
def qs2 : List PO := []
noncomputable def sum2 (M : Nat) : Sum := sumS [0, 3] ps2 qs2 [] of2 (st2 M) ex2 M
theorem sok2 (M : Nat) : SumOk (loopRd (e M) 18 2) (e M) (call (e M) 11) 18 0 (loopAt (e M) 18 2) (sum2 M) :=
  sumOk_st (T := tblOf (t18_0 M)) (n0 := 0) (lv := lv2) (t18_0_ok M) (by kernel_rfl) rfl (by intro ls s h; unfold of2 at h; (repeat' split at h) <;> simp at h; subst h; rfl) (by intro s; kernel_rfl) (by intro s; kernel_rfl) (by intro s nx k; kernel_rfl)
noncomputable def t18_1 (M : Nat) : List Ent := ⟨18, 11, 0, 2, sum2 M⟩ :: t18_0 M
theorem t18_1_ok (M : Nat) : AllOk (e M) (tblOf (t18_1 M)) := (t18_0_ok M).add ⟨18, 11, 0, 2, sum2 M⟩ (by kernel_rfl) (sok2 M)
def s (M : Nat) (p0 : D) : Option D :=
  (goS (st2 M) M ⟨p0, 0⟩ fun x => match x with | .e0 d1 i2 => (some (db false)) | .e1 d1 i2 => (some (db false)) | .e2 d1 i2 => (some (db (leI (nI d1.elems.length) 30))) | .e3 d1 i2 => (some (db (leI (nI d1.elems.length) 30))))
theorem run (M : Nat) (p0 : D) : callS (e M) (tblOf (t18_1 M)) 12 (.fn 18) [.d (.slice 47) p0] [] (fun v H => finish ty [4] v H) = s M p0 := by kernel_rfl
noncomputable abbrev t (M : Nat) : List Ent := t18_1 M
theorem t_ok (M : Nat) : AllOk (e M) (tblOf (t M)) := t18_1_ok M
def c : Con := { run := fun ds => match ds with | [p0] => s FUEL p0 | _ => none, fresh := false, plain := true }
theorem fun_at : Tryd.prog.funcs[18]? = some Tryd.f18 := by kernel_rfl
theorem params : Tryd.f18.params.toList.map ty = [(.slice 47)] := by kernel_rfl
theorem results : Tryd.f18.resultTypes.toList = [4] := by kernel_rfl
theorem flat : Tryd.f18.resultTypes.toList.all (fun t => K.flat ty 20 (ty t)) = true := by kernel_rfl
theorem ok : ConOk (18, c) := by
  intro fn hfn
  obtain rfl : Tryd.f18 = fn := Option.some.inj (fun_at.symm.trans hfn)
  refine contract_flat (n := 20) hgl (fun _ => flat) (fun ds r hh0 hr => ?_)
  rw [params] at hh0
  obtain ⟨p0, ds0, rfl, h0, hh1⟩ := hass_cons hh0
  obtain rfl := hass_nil hh1
  refine ⟨e FUEL, DEPTH, tblOf (t FUEL), envOk allNil allNil, rfl, t_ok FUEL, ?_⟩
  rw [params, results]
  exact (run FUEL p0).trans hr
end F18
namespace F40
end F40
namespace F22
end F22
namespace F6
end F6
end Go.AM.SD
namespace Go.AM.SD
open Go Go.AM
def Run.enc (r : Run) : D := .tup [r.st.enc, dl r.nnA (r.ans.map An.enc), dl r.nnE (r.evs.map Ev.enc)]
theorem do_evs_len {sum : ByteArray → List Int} {s : St} {o : Mo} (hs : StOk s) : (doM sum s o).evs.length ≤ 12 := by
  unfold doM
  repeat' split
  · simp [stay]
  · simp [stay]
  · unfold createM; repeat' split
    all_goals simp [stay]
  · unfold tickM; split <;> simp
  · have := hs.len
    simp only [sweepM, dueL, List.length_map]
    exact Nat.le_trans (List.length_filter_le _ _) this
  · unfold readM; repeat' split
    all_goals simp [stay]
  · unfold statM; repeat' split
    all_goals simp [stay]
  · simp [listM]
  · unfold changeM; repeat' split
    all_goals simp [stay]
theorem run_spec (s : St) (nn : Bool) (l : List Mo) (hs : StOk s) (hl : ∀ o ∈ l, MoOk o) (hlen : l.length ≤ 1000) : F19.s FUEL s.enc (dl nn (l.map Mo.enc)) = some (runM shaL s l).enc := by
  unfold F19.s
  refine goS_rule (fun t : F19.S4 => ∃ (k : Nat) (r : Run), t = ⟨0, k, 0, r.evs.length, dl nn (l.map Mo.enc), nI l.length, (k : Int), r.st.enc, false, [], 0, 0, r.nnA, r.ans.map An.enc, r.nnE, r.evs.map Ev.enc⟩ ∧ k ≤ l.length ∧ StOk r.st ∧ r.ans.length = k ∧ r.evs.length ≤ 12 * k ∧ runM shaL s l = runFrom shaL (l.drop k) r) (fun t => l.length - t.i7.toNat) (fun o => o = some (runM shaL s l).enc) ?_ _ _ ⟨0, run0 s, by simp [run0], by omega, hs, rfl, by simp [run0], by simp [runM]⟩ (by simp [FUEL]; omega)
  rintro _ rec ⟨k, r, rfl, hk, hr, hra, hre, hrun⟩ hrec
  simp only [F19.st4]
  by_cases h1 : k < l.length
  · have hadd : ad .i64 (k : Int) 1 = ((k + 1 : Nat) : Int) := by rw [ad64 (by omega) (by omega)]; rfl
    have ho := hl _ (List.getElem_mem h1)
    have hev := do_evs_len (sum := shaL) (o := l[k]) hr
    refine ct (by simp; omega) (ct (by simp; omega) ?_)
    simp only [elems_slice, Int.toNat_natCast, ix_map h1]
    refine bdS (do_specM r.st l[k] hr ho) ?_
    rw [List.drop_eq_getElem_cons h1, runFrom] at hrun
    refine ct (by simp; omega) (ct (by show mx (r.evs.length + ((doM shaL r.st l[k]).evs.map Ev.enc).length) = true; simp; omega) ?_)
    rw [hadd]
    refine hrec _ ⟨k + 1, _, ?_, by omega, do_ok hr ho, by simp [hra], by simp; omega, hrun⟩ ?_
    · rw [F19.S4.mk.injEq]
      refine ⟨rfl, rfl, rfl, ?_, rfl, rfl, rfl, rfl, rfl, rfl, rfl, rfl, ?_, ?_, ?_, ?_⟩
      · show r.evs.length + ((doM shaL r.st l[k]).evs.map Ev.enc).length = (r.evs ++ (doM shaL r.st l[k]).evs).length
        simp
      · simp
      · show ap (((r.ans.map An.enc).drop 0).take k) [(doM shaL r.st l[k]).an.enc] = (r.ans ++ [(doM shaL r.st l[k]).an]).map An.enc
        rw [List.drop_zero, List.take_of_length_le (by simp [hra]), ap, List.map_append]
        rfl
      · show (r.nnE || !((doM shaL r.st l[k]).evs.map Ev.enc).isEmpty) = (r.nnE || !(doM shaL r.st l[k]).evs.isEmpty)
        simp
      · show ap (((r.evs.map Ev.enc).drop 0).take r.evs.length) ((doM shaL r.st l[k]).evs.map Ev.enc) = (r.evs ++ (doM shaL r.st l[k]).evs).map Ev.enc
        rw [List.drop_zero, List.take_of_length_le (by simp), ap, List.map_append]
    · dsimp only; omega
  · refine cf (by simp; omega) ?_
    rw [List.drop_of_length_le (by omega), runFrom] at hrun
    rw [hrun]
    show some (D.tup [r.st.enc, dl r.nnA (((r.ans.map An.enc).drop 0).take k), dl r.nnE (((r.evs.map Ev.enc).drop 0).take r.evs.length)]) = _
    rw [List.drop_zero, List.drop_zero, List.take_of_length_le (by simp [hra]), List.take_of_length_le (by simp)]
    rfl
def oneM (o : Mo) : Bool := decide (o.text.size ≤ 700) && decide (o.name.size ≤ 200)
def fewM (l : List Mo) : Bool := decide (l.length ≤ 30) && (l.take 31).all oneM
theorem few_specM (nn : Bool) (l : List Mo) : F18.s FUEL (dl nn (l.map Mo.enc)) = some (db (fewM l)) := by
  unfold F18.s
  refine goS_rule (fun t : F18.S2 => ∃ k : Nat, t = ⟨dl nn (l.map Mo.enc), (k : Int)⟩ ∧ k ≤ 31 ∧ ∀ i (h : i < l.length), i < k → oneM l[i] = true) (fun t => 31 - t.i2.toNat) (fun o => o = some (db (fewM l))) ?_ _ _ ⟨0, rfl, by omega, by omega⟩ (by simp [FUEL])
  rintro _ rec ⟨k, rfl, hk, hs⟩ hrec
  have hall : (∀ i (h : i < l.length), i ≤ 30 → oneM l[i] = true) → (l.take 31).all oneM = true := by
    intro h
    simp only [List.all_eq_true]
    intro e he
    obtain ⟨i, hi, rfl⟩ := List.getElem_of_mem he
    simp at hi ⊢
    exact h i (by omega) (by omega)
  have hno : ∀ (h1 : k < l.length), k ≤ 30 → oneM l[k] = false → fewM l = false := by
    intro h1 h2 h3
    have : (l.take 31).all oneM = false := by
      rw [List.all_eq_false]
      refine ⟨l[k], ?_, by simp [h3]⟩
      rw [List.mem_take_iff_getElem]
      exact ⟨k, by omega, rfl⟩
    simp [fewM, this]
  simp only [F18.st2]
  by_cases h1 : k < l.length
  · refine ct (by simp; omega) ?_
    by_cases h2 : k ≤ 30
    · refine ct (by simp; omega) (ct (by simp; omega) ?_)
      simp only [elems_slice, Int.toNat_natCast, ix_map h1]
      have ht : ((l[k].enc.at 2).s) = l[k].text := rfl
      have hn : ((l[k].enc.at 1).s) = l[k].name := rfl
      rw [ht, hn]
      by_cases h3 : l[k].text.size ≤ 700
      · refine cf (by simp; omega) (ct (by simp; omega) ?_)
        by_cases h4 : l[k].name.size ≤ 200
        · refine cf (by simp; omega) ?_
          have hadd : ad .i64 (k : Int) 1 = ((k + 1 : Nat) : Int) := by rw [ad64 (by omega) (by omega)]; rfl
          rw [hadd]
          refine hrec _ ⟨k + 1, rfl, by omega, ?_⟩ (by simp; omega)
          intro i hi hik
          by_cases hik' : i = k
          · subst hik'; simp [oneM, h3, h4]
          · exact hs i hi (by omega)
        · refine ct (by simp; omega) ?_
          rw [hno h1 h2 (by simp [oneM, h4])]
      · refine ct (by simp; omega) ?_
        rw [hno h1 h2 (by simp [oneM, h3])]
    · refine cf (by simp; omega) ?_
      have : ¬ l.length ≤ 30 := by omega
      simp [fewM, this, leI]
      try omega
  · refine cf (by simp; omega) ?_
    have := hall (fun i hi hi2 => hs i hi (by omega))
    simp [fewM, this, leI]
    omega
structure Mo.ok (o : Mo) : Prop where
  kind : i64ok o.kind
  time : i64ok o.time
  a : i64ok o.a
  b : i64ok o.b
theorem mo_of {d : D} (h : D.has ty d (.struct [34, 9, 9, 3, 3, 3])) (hw : D.wf d) : ∃ o : Mo, d = o.enc ∧ o.ok := by
  obtain ⟨ds, rfl, hh⟩ := hass_struct h
  clear h
  have hf : List.map ty [34, 9, 9, 3, 3, 3] = [.int .i64, .str, .str, .int .i64, .int .i64, .int .i64] := rfl
  rw [hf] at hh
  obtain ⟨d0, _, rfl, h0, hh⟩ := hassC hh
  obtain ⟨d1, _, rfl, h1, hh⟩ := hassC hh
  obtain ⟨d2, _, rfl, h2, hh⟩ := hassC hh
  obtain ⟨d3, _, rfl, h3, hh⟩ := hassC hh
  obtain ⟨d4, _, rfl, h4, hh⟩ := hassC hh
  obtain ⟨d5, _, rfl, h5, hh⟩ := hassC hh
  obtain rfl := hass0 hh
  obtain ⟨x0, rfl⟩ := has_int h0
  obtain ⟨x1, rfl⟩ := has_str h1
  obtain ⟨x2, rfl⟩ := has_str h2
  obtain ⟨x3, rfl⟩ := has_int h3
  obtain ⟨x4, rfl⟩ := has_int h4
  obtain ⟨x5, rfl⟩ := has_int h5
  rw [D.wf] at hw
  simp only [D.wfs] at hw
  exact ⟨⟨x0, x1, x2, x3, x4, x5⟩, rfl, wf_i64 hw.1, wf_i64 hw.2.2.2.1, wf_i64 hw.2.2.2.2.1, wf_i64 hw.2.2.2.2.2.1⟩
theorem mos_of {d : D} (h : D.has ty d (.slice 47)) (hw : D.wf d) : ∃ (nn : Bool) (l : List Mo), d = dl nn (l.map Mo.enc) ∧ ∀ o ∈ l, o.ok := by
  obtain ⟨nn, ds, rfl, h1, h2⟩ := hass_slice h
  simp only [D.wf] at hw
  obtain ⟨l, rfl, _, hl⟩ := hass_rep (f := Mo.enc) (Q := fun o : Mo => o.ok) (fun d h1 h2 => mo_of h1 h2) h1 (by first | exact hw | exact hw.1 | exact hw.2)
  exact ⟨nn, l, rfl, hl⟩
theorem few_okM {l : List Mo} (h : fewM l = true) (hs : ∀ o ∈ l, o.ok) : l.length ≤ 30 ∧ ∀ o ∈ l, MoOk o := by
  unfold fewM at h
  simp only [Bool.and_eq_true, decide_eq_true_eq, List.all_eq_true] at h
  refine ⟨h.1, fun o ho => ?_⟩
  have h2 := h.2 o (by rw [List.take_of_length_le (by omega)]; exact ho)
  simp only [oneM, Bool.and_eq_true, decide_eq_true_eq] at h2
  exact ⟨(hs o ho).kind, (hs o ho).time, (hs o ho).a, (hs o ho).b, by omega, by omega⟩
end Go.AM.SD
namespace Go.AM.SD
open Go Go.AM
theorem within_specM (n h : Int) : F45.s FUEL n h = some (db (decide (0 ≤ n) && decide (n ≤ h))) := by
  unfold F45.s
  by_cases h0 : 0 ≤ n
  · exact ct (by simpa using h0) (by simp [h0, leI])
  · exact cf (by simp; omega) (by simp [h0])
theorem valid_file {f : Fl} {last : Int} (hf : FlOk f last) (hl : last ≤ 1099511627776) : F46.s FUEL f.enc = some (db true) := by
  have i0 := hf.id0
  have i1 := hf.id1
  have u0 := hf.until0
  have u1 := hf.until1
  have hns := hf.nsz
  have hda := hf.data
  have hho := hf.hold
  unfold F46.s
  refine bdS (numbered_spec f.id) (cf ?_ (bdS (name_spec f.name (by omega)) (cf ?_ (cf ?_ (cf ?_ (cf ?_ (cf ?_ ?_)))))))
  · show (!(decide (1 ≤ f.id) && decide (f.id ≤ 1099511627776))) = false
    simp; omega
  · show (!nameB f.name) = false
    simp [hf.name]
  · show gtI (nI f.data.size) 600 = false
    simp; omega
  · show ltI f.until_ 0 = false
    simp; omega
  · show gtI f.until_ 1099511627776 = false
    simp; omega
  · show gtI (nI (f.holds.map dS).length) 4 = false
    simp; omega
  have h3 : (f.enc.at 3).b = f.sealed := rfl
  have h4 : (f.enc.at 4).i = f.until_ := rfl
  have h5 : f.enc.at 5 = dl f.nn (f.holds.map dS) := rfl
  rw [h3, h4, h5]
  by_cases hse : f.sealed = true
  · refine cf (by simp [hse]) ?_
    refine goS_rule (fun t : F46.S6 => ∃ k : Nat, t = ⟨dl f.nn (f.holds.map dS), nI (f.holds.map dS).length, (k : Int), f.enc⟩ ∧ k ≤ f.holds.length) (fun t => f.holds.length - t.i5.toNat) (fun o => o = some (db true)) ?_ _ _ ⟨0, rfl, by omega⟩ (by simp [FUEL]; omega)
    rintro _ rec ⟨k, rfl, hk⟩ hrec
    simp only [F46.st6]
    by_cases h1 : k < f.holds.length
    · have hadd : ad .i64 (k : Int) 1 = ((k + 1 : Nat) : Int) := by rw [ad64 (by omega) (by omega)]; rfl
      have hkz := hf.hsz _ (List.getElem_mem h1)
      refine ct (by simp; omega) (ct (by simp; omega) ?_)
      simp only [elems_slice, Int.toNat_natCast, ix_map h1]
      refine bdS (name_spec f.holds[k] (by omega)) (cf (by show (!nameB f.holds[k]) = false; simp [hf.hname _ (List.getElem_mem h1)]) ?_)
      have fin : rec ⟨dl f.nn (f.holds.map dS), nI (f.holds.map dS).length, ad .i64 (k : Int) 1, f.enc⟩ = some (db true) := by
        rw [hadd]
        exact hrec _ ⟨k + 1, rfl, by omega⟩ (by simp; omega)
      by_cases h0 : 0 < k
      · have hsub : sb .i64 (k : Int) 1 = ((k - 1 : Nat) : Int) := by rw [sb64 (by omega) (by omega)]; omega
        have hk1 : k - 1 < f.holds.length := by omega
        have hkz1 := hf.hsz _ (List.getElem_mem hk1)
        refine ct (by simp; omega) (ct (by rw [h5, hsub]; simp; omega) ?_)
        rw [h5, hsub]
        simp only [elems_slice, Int.toNat_natCast, ix_map hk1]
        have hlt : lessB f.holds[k - 1] f.holds[k] = true := (List.pairwise_iff_getElem.1 hf.rise) (k - 1) k hk1 h1 (by omega)
        refine bdS (less_spec _ _ (by show f.holds[k-1].size ≤ _; omega) (by show f.holds[k].size ≤ _; omega)) (cf (by rw [show (dS f.holds[k-1]).s = f.holds[k-1] from rfl, show (dS f.holds[k]).s = f.holds[k] from rfl, hlt]; rfl) fin)
      · exact cf (by simp; omega) fin
    · exact cf (by simp; omega) rfl
  · obtain ⟨e1, e2⟩ := hf.opn (by simpa using hse)
    refine ct (by simpa using hse) (ct (by simp [e1]) ?_)
    rw [e2]; rfl
theorem valid_state {s : St} (hs : StOk s) : F27.s FUEL s.enc = some (db true) := by
  have hl := hs.len
  have l0 := hs.last0
  have l1 := hs.last1
  have f0 := hs.floor0
  have f1 := hs.floor1
  unfold F27.s
  have h0 : s.enc.at 0 = dl s.nn (s.files.map Fl.enc) := rfl
  have hla : (s.enc.at 1).i = s.last := rfl
  have hfl : (s.enc.at 2).i = s.floor := rfl
  rw [h0, hla, hfl]
  refine cf (by simp; omega) (bdS (within_specM _ _) (cf (by simp; omega) (bdS (within_specM _ _) (cf (by simp; omega) ?_))))
  refine goS_rule (fun t : F27.S4 => ∃ k : Nat, t = ⟨dl s.nn (s.files.map Fl.enc), nI s.files.length, (k : Int), s.enc⟩ ∧ k ≤ s.files.length) (fun t => s.files.length - t.i5.toNat) (fun o => o = some (db true)) ?_ _ _ ⟨0, by simp, by omega⟩ (by simp [FUEL]; omega)
  rintro _ rec ⟨k, rfl, hk⟩ hrec
  simp only [F27.st4]
  by_cases h1 : k < s.files.length
  · have hadd : ad .i64 (k : Int) 1 = ((k + 1 : Nat) : Int) := by rw [ad64 (by omega) (by omega)]; rfl
    have hf := hs.files _ (List.getElem_mem h1)
    have i1 := hf.id1
    have hns := hf.nsz
    refine ct (by simp; omega) (ct (by simp; omega) ?_)
    simp only [elems_slice, Int.toNat_natCast, ix_map h1]
    refine bdS (valid_file hf hs.last1) (cf rfl (cf (by show gtI s.files[k].id s.last = false; simp; omega) ?_))
    have hfind : findI (fun f : Fl => decide (f.name = s.files[k].name)) s.files = (k : Int) := by
      refine findI_some (findIdx_some_of h1 (fun i hi hik => ?_) (by simp))
      have := (List.pairwise_iff_getElem.1 hs.names) i k hi h1 hik
      simpa using this
    refine bdS (find_specM s s.files[k].name (by omega)) (cf (by rw [hfind]; simp) ?_)
    have fin : rec ⟨dl s.nn (s.files.map Fl.enc), nI s.files.length, ad .i64 (k : Int) 1, s.enc⟩ = some (db true) := by
      rw [hadd]
      exact hrec _ ⟨k + 1, rfl, by omega⟩ (by simp; omega)
    by_cases hk0 : 0 < k
    · have hsub : sb .i64 (k : Int) 1 = ((k - 1 : Nat) : Int) := by rw [sb64 (by omega) (by omega)]; omega
      have hk1 : k - 1 < s.files.length := by omega
      have hlt := (List.pairwise_iff_getElem.1 hs.rise) (k - 1) k hk1 h1 (by omega)
      refine ct (by simp; omega) (ct (by rw [h0, hsub]; simp; omega) (cf ?_ fin))
      rw [h0, hsub]
      simp only [elems_slice, Int.toNat_natCast, ix_map hk1]
      show geI s.files[k - 1].id s.files[k].id = false
      simp; omega
    · exact cf (by simp; omega) fin
  · exact cf (by simp; omega) rfl
theorem same_state {s : St} (hs : StOk s) : F25.s FUEL s.enc s.enc = some (db true) := by
  have hl := hs.len
  unfold F25.s
  have h0 : s.enc.at 0 = dl s.nn (s.files.map Fl.enc) := rfl
  rw [h0]
  refine ct (by simp) (ct (by simp) (cf (by simp) ?_))
  refine goS_rule (fun t : F25.S43_4 => ∃ k : Nat, t = ⟨dl s.nn (s.files.map Fl.enc), dl s.nn (s.files.map Fl.enc), nI s.files.length, (k : Int), s.enc, s.enc⟩ ∧ k ≤ s.files.length) (fun t => s.files.length - t.i4.toNat) (fun o => o = some (db true)) ?_ _ _ ⟨0, by simp, by omega⟩ (by simp [FUEL]; omega)
  rintro _ rec ⟨k, rfl, hk⟩ hrec
  simp only [F25.st43_4]
  by_cases h1 : k < s.files.length
  · have hadd : ad .i64 (k : Int) 1 = ((k + 1 : Nat) : Int) := by rw [ad64 (by omega) (by omega)]; rfl
    have hf := (hs.files _ (List.getElem_mem h1)).hold
    refine ct (by simp; omega) (ct (by simp; omega) (ct (by simp; omega) ?_))
    simp only [elems_slice, Int.toNat_natCast, ix_map h1]
    refine bdS (same_file _ (by omega)) (cf rfl ?_)
    rw [hadd]
    exact hrec _ ⟨k + 1, rfl, by omega⟩ (by simp; omega)
  · exact cf (by simp; omega) rfl
def exOps : List Mo := [⟨0, bs [97], bs [], 0, 0, 0⟩, ⟨1, bs [97], bs [97, 98], 0, 0, 0⟩, ⟨2, bs [97], bs [], 5, 0, 0⟩, ⟨7, bs [], bs [], 5, 0, 0⟩]
def exF : Fl := ⟨1, bs [97], bs [97, 98], true, 5, false, []⟩
def exS : St := ⟨true, [exF], 1, 5⟩
set_option maxRecDepth 100000 in
theorem ex_run (sum : ByteArray → List Int) : runM sum emptyS exOps = ⟨exS, true, [⟨0, 1, bs [], zeroF, false, []⟩, ⟨0, 2, bs [], zeroF, false, []⟩, ⟨0, 2, bs [], zeroF, false, []⟩, ⟨0, 5, bs [], zeroF, false, []⟩], true,
    [⟨0, 1, bs [97], 0, 0, zeros⟩, ⟨1, 1, bs [], 0, 2, zeros⟩, ⟨2, 1, bs [], 5, 2, sum (bs [97, 98])⟩, ⟨7, 0, bs [], 5, 0, zeros⟩]⟩ := by kernel_rfl
set_option maxRecDepth 100000 in
theorem ex_read (sum : ByteArray → List Int) : doM sum exS ⟨9, bs [97], bs [], 0, 0, 2⟩ = ⟨exS, ⟨0, 0, bs [97, 98], zeroF, false, []⟩, false, []⟩ := by kernel_rfl
set_option maxRecDepth 100000 in
theorem ex_sweep (sum : ByteArray → List Int) : doM sum exS ⟨8, bs [], bs [], 0, 0, 0⟩ = ⟨⟨true, [], 1, 5⟩, ⟨0, 1, bs [], zeroF, false, []⟩, true, [delEv 1]⟩ := by kernel_rfl
theorem ex_ok : ∀ o ∈ exOps, MoOk o := by
  intro o ho
  simp only [exOps, List.mem_cons, List.not_mem_nil, or_false] at ho
  rcases ho with rfl | rfl | rfl | rfl <;> exact ⟨by simp [i64ok], by simp [i64ok], by simp [i64ok], by simp [i64ok], by show (bs _).size ≤ 1000; simp [bs, ByteArray.size], by show (bs _).size ≤ 1000; simp [bs, ByteArray.size]⟩
theorem exS_ok : StOk exS := by
  have := runFrom_ok (sum := fun _ => zeros) (l := exOps) (r := run0 emptyS) emptyS_ok ex_ok
  have h := ex_run (fun _ => zeros)
  unfold runM at h
  rw [h] at this
  exact this
theorem works_M : F17.s FUEL = some (db true) := by
  unfold F17.s
  refine bdS (x := (runM shaL emptyS exOps).enc) (run_spec emptyS true exOps emptyS_ok ex_ok (by simp [exOps])) ?_
  rw [ex_run]
  refine cf rfl (cf rfl (bdS (find_specM exS (bs [97]) (by simp [exS])) (cf rfl ?_)))
  have ho1 : MoOk ⟨9, bs [97], bs [], 0, 0, 2⟩ := ⟨by simp [i64ok], by simp [i64ok], by simp [i64ok], by simp [i64ok], by show (bs _).size ≤ 1000; simp [bs, ByteArray.size], by show (bs _).size ≤ 1000; simp [bs, ByteArray.size]⟩
  have ho2 : MoOk ⟨8, bs [], bs [], 0, 0, 0⟩ := ⟨by simp [i64ok], by simp [i64ok], by simp [i64ok], by simp [i64ok], by show (bs _).size ≤ 1000; simp [bs, ByteArray.size], by show (bs _).size ≤ 1000; simp [bs, ByteArray.size]⟩
  refine bdS (do_specM exS _ exS_ok ho1) (bdS (do_specM exS _ exS_ok ho2) ?_)
  rw [ex_read, ex_sweep]
  refine ct rfl (ct rfl (ct rfl (ct rfl (ct rfl (ct rfl (ct (by simp [Res.enc, An.enc]) (ct rfl (ct rfl (ct rfl ?_)))))))))
  refine bdS (x := db true) ?_ (ct rfl (ct rfl (ct rfl (ct rfl (bdS (valid_state exS_ok) (ct rfl (bdS (same_state exS_ok) (ct rfl (bdS (x := db false) ?_ rfl)))))))))
  · show (match D.eqv ty eqDepth (delEv 1).enc (delEv 1).enc (.struct [34, 3, 9, 3, 3, 36]) with | some z => some (D.bool z) | none => none) = _
    rw [eqv_ev rfl rfl, evEq_self]
  · rfl
end Go.AM.SD
