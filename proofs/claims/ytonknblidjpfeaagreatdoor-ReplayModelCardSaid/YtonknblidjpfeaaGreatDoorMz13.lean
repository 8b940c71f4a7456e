/- Part 13 of the proof: the abstract machine, what the functions compute, and plain laws over that. -/
import Derived.Test.YtonknblidjpfeaaGreatDoorMz12
set_option linter.all false
set_option linter.unusedSimpArgs false
set_option linter.unusedVariables false
set_option linter.unusedSectionVars false
namespace Go.AM.SZ
open Go Go.AM
namespace F15
def createS (M : Nat) (p0 p1 : D) : Option D :=
  (bd (F70.s FUEL (p1.at 1).s) fun r3 => (cond (!r3.b) (bd (F33.s FUEL 2) fun r4 => (some (D.tup [p0, r4, (dl false [])]))) (bd (F25.s FUEL p0 (p1.at 1).s) fun r5 => (cond (geI r5.i 0) (bd (F33.s FUEL 4) fun r6 => (some (D.tup [p0, r6, (dl false [])]))) (cond (geI (nI (p0.at 0).elems.length) 12) (bd (F33.s FUEL 10) fun r7 => (some (D.tup [p0, r7, (dl false [])]))) (cond (geI (p0.at 1).i 1099511627776) (bd (F33.s FUEL 10) fun r8 => (some (D.tup [p0, r8, (dl false [])]))) (bd (F106.s FUEL (ad .i64 (p0.at 1).i 1) (p1.at 1).s) fun r9 => (cond (neI (r9.at 1).i 0) (bd (F33.s FUEL (r9.at 1).i) fun r10 => (some (D.tup [p0, r10, (dl false [])]))) (bd (F107.s FUEL (p0.at 0)) fun r11 => (cond (mx (r11.elems.length + 1)) (some (D.tup [(da [(dl (r11.nn || true) (((ap ((r11.elems.drop 0).take r11.elems.length) [(r9.at 0)]).drop 0).take (r11.elems.length + 1))), ((r9.at 0).at 0), (p0.at 2)]), (da [(di 0), ((r9.at 0).at 0), (dS (bs [])), (da [(di 0), (dS (bs [])), (dS (bs [])), (db false), (di 0), (dl false [])]), (dl false [])]), (dl true [(da [(di 0), ((r9.at 0).at 0), ((r9.at 0).at 1), (di 0), (di 0), (da (rp 32 (D.int .u8 0)))])])])) none))))))))))
def changeS (M : Nat) (p0 p1 : D) : Option D :=
  (bd (F25.s FUEL p0 (p1.at 1).s) fun r12 => (cond (ltI r12.i 0) (bd (F33.s FUEL 3) fun r13 => (some (D.tup [p0, r13, (dl false [])]))) (cond (inb r12.i (p0.at 0).elems.length) (bd (F108.s FUEL (ix (p0.at 0).elems (r12.i).toNat) p1 (p0.at 2).i) fun r14 => (cond (neI (r14.at 2).i 0) (bd (F33.s FUEL (r14.at 2).i) fun r15 => (some (D.tup [p0, r15, (dl false [])]))) (bd (F107.s FUEL (p0.at 0)) fun r16 => (cond (eqI (p1.at 0).i 6) (cond ((leI 0 r12.i) && (leI r12.i (ad .i64 r12.i 1)) && (leI (ad .i64 r12.i 1) (nI r16.elems.length)) && (leI (nI r16.elems.length) (nI r16.elems.length)) && (eqN (0 + r16.elems.length) r16.elems.length)) (cond (eqI r12.i (ad .i64 r12.i 1)) (some (D.tup [(da [(dl r16.nn ((r16.elems.drop 0).take r16.elems.length)), (p0.at 1), (p0.at 2)]), (da [(di 0), ((r14.at 1).at 1), (dS (bs [])), (da [(di 0), (dS (bs [])), (dS (bs [])), (db false), (di 0), (dl false [])]), (dl false [])]), (dl true [(r14.at 1)])])) (cond (true && (leI 0 r12.i) && (leN (0 + (r12.i).toNat) r16.elems.length)) (cond ((leI 0 (ad .i64 r12.i 1)) && (leI (ad .i64 r12.i 1) (nI r16.elems.length)) && (leN (0 + r16.elems.length) r16.elems.length)) (cond (leN ((0 + ((r12.i).toNat - 0)) + ((r16.elems.drop (0 + (ad .i64 r12.i 1).toNat)).take (r16.elems.length - (ad .i64 r12.i 1).toNat)).length) r16.elems.length) (cond ((leI 0 (nI (((r12.i).toNat - 0) + ((r16.elems.drop (0 + (ad .i64 r12.i 1).toNat)).take (r16.elems.length - (ad .i64 r12.i 1).toNat)).length))) && (leI (nI (((r12.i).toNat - 0) + ((r16.elems.drop (0 + (ad .i64 r12.i 1).toNat)).take (r16.elems.length - (ad .i64 r12.i 1).toNat)).length)) (nI r16.elems.length)) && (leN (0 + r16.elems.length) (ap (ap (r16.elems.take (0 + ((r12.i).toNat - 0))) ((r16.elems.drop (0 + (ad .i64 r12.i 1).toNat)).take (r16.elems.length - (ad .i64 r12.i 1).toNat))) (r16.elems.drop ((0 + ((r12.i).toNat - 0)) + ((r16.elems.drop (0 + (ad .i64 r12.i 1).toNat)).take (r16.elems.length - (ad .i64 r12.i 1).toNat)).length))).length)) (some (D.tup [(da [(dl r16.nn (((ap (ap ((ap (ap (r16.elems.take (0 + ((r12.i).toNat - 0))) ((r16.elems.drop (0 + (ad .i64 r12.i 1).toNat)).take (r16.elems.length - (ad .i64 r12.i 1).toNat))) (r16.elems.drop ((0 + ((r12.i).toNat - 0)) + ((r16.elems.drop (0 + (ad .i64 r12.i 1).toNat)).take (r16.elems.length - (ad .i64 r12.i 1).toNat)).length))).take (0 + (((r12.i).toNat - 0) + ((r16.elems.drop (0 + (ad .i64 r12.i 1).toNat)).take (r16.elems.length - (ad .i64 r12.i 1).toNat)).length))) (rp (r16.elems.length - (((r12.i).toNat - 0) + ((r16.elems.drop (0 + (ad .i64 r12.i 1).toNat)).take (r16.elems.length - (ad .i64 r12.i 1).toNat)).length)) (da [(di 0), (dS (bs [])), (dS (bs [])), (db false), (di 0), (dl false [])]))) ((ap (ap (r16.elems.take (0 + ((r12.i).toNat - 0))) ((r16.elems.drop (0 + (ad .i64 r12.i 1).toNat)).take (r16.elems.length - (ad .i64 r12.i 1).toNat))) (r16.elems.drop ((0 + ((r12.i).toNat - 0)) + ((r16.elems.drop (0 + (ad .i64 r12.i 1).toNat)).take (r16.elems.length - (ad .i64 r12.i 1).toNat)).length))).drop ((0 + (((r12.i).toNat - 0) + ((r16.elems.drop (0 + (ad .i64 r12.i 1).toNat)).take (r16.elems.length - (ad .i64 r12.i 1).toNat)).length)) + (r16.elems.length - (((r12.i).toNat - 0) + ((r16.elems.drop (0 + (ad .i64 r12.i 1).toNat)).take (r16.elems.length - (ad .i64 r12.i 1).toNat)).length))))).drop 0).take (((r12.i).toNat - 0) + ((r16.elems.drop (0 + (ad .i64 r12.i 1).toNat)).take (r16.elems.length - (ad .i64 r12.i 1).toNat)).length))), (p0.at 1), (p0.at 2)]), (da [(di 0), ((r14.at 1).at 1), (dS (bs [])), (da [(di 0), (dS (bs [])), (dS (bs [])), (db false), (di 0), (dl false [])]), (dl false [])]), (dl true [(r14.at 1)])])) none) none) none) none)) none) (cond (inb r12.i r16.elems.length) (some (D.tup [(da [(dl r16.nn (((r16.elems.set (0 + (r12.i).toNat) (r14.at 0)).drop 0).take r16.elems.length)), (p0.at 1), (p0.at 2)]), (da [(di 0), (di (nI ((r14.at 0).at 2).s.size)), (dS (bs [])), (da [(di 0), (dS (bs [])), (dS (bs [])), (db false), (di 0), (dl false [])]), (dl false [])]), (dl true [(r14.at 1)])])) none))))) none)))
def sweepS (M : Nat) (p0 p1 : D) : Option D :=
  (bd (F111.s FUEL (p0.at 0) (p0.at 2).i) fun r43 => (goS (st64_3 M) M ⟨0, r43.elems.length, 0, r43.elems.length, (nI r43.elems.length), 0, p0, p1, false, [], 0, 0, 0, 0, (bs []), 0, (bs []), (bs []), false, 0, false, [], false, [], p0, p1, 0, 0, 0, 0, (bs []), 0, (bs []), (bs []), false, 0, false, [], false, [], r43.nn, r43.elems, false, []⟩ fun x => match x with | .e0 n44 n45 n46 n47 i48 i49 d50 d51 b52 l53 i54 i55 i56 i57 s58 i59 s60 s61 b62 i63 b64 l65 b66 l67 d68 d69 n70 n71 i72 i73 s74 i75 s76 s77 b78 i79 b80 l81 b82 l83 b84 l85 b86 l87 => (bd (F107.s FUEL (d68.at 0)) fun r88 => (goS (st45_2 M) M ⟨0, r88.elems.length, (nI r88.elems.length), 0, d50, d51, b52, l53, i54, i55, i56, i57, s58, i59, s60, s61, b62, i63, b64, l65, b66, l67, d68, d69, n70, n71, i72, i73, s74, i75, s76, s77, b78, i79, b80, l81, b82, l83, b84, l85, b86, l87, r88.nn, r88.elems⟩ fun x => match x with | .e0 n89 n90 i91 i92 d93 d94 b95 l96 i97 i98 i99 i100 s101 i102 s103 s104 b105 i106 b107 l108 b109 l110 d111 d112 n113 n114 i115 i116 s117 i118 s119 s120 b121 i122 b123 l124 b125 l126 b127 l128 b129 l130 b131 l132 r133 => (cond (eqI i92 (-1)) (some (D.tup [(da [(dl b131 ((l132.drop 0).take r88.elems.length)), (d111.at 1), (d111.at 2)]), (da [(di 0), (di (nI n45)), (dS (bs [])), (da [(di 0), (dS (bs [])), (dS (bs [])), (db false), (di 0), (dl false [])]), (dl false [])]), (dl b129 ((l130.drop n113).take n114))])) (goS (st112_5 M) M ⟨0, r88.elems.length, i92, (ad .i64 i92 1), d93, d94, b95, l96, i97, i98, i99, i100, s101, i102, s103, s104, b105, i106, b107, l108, b109, l110, d111, d112, n113, n114, i115, i116, s117, i118, s119, s120, b121, i122, b123, l124, b125, l126, b127, l128, b129, l130, b131, l132, (ix l132 (n89 + i92.toNat))⟩ fun x => match x with | .e0 n134 n135 i136 i137 d138 d139 b140 l141 i142 i143 i144 i145 s146 i147 s148 s149 b150 i151 b152 l153 b154 l155 d156 d157 n158 n159 i160 i161 s162 i163 s164 s165 b166 i167 b168 l169 b170 l171 b172 l173 b174 l175 b176 l177 d178 => (cond ((leI 0 i136) && (leI i136 (nI n135)) && (leN (n134 + n135) l177.length)) (cond (true && (leI 0 i136) && (leN (n134 + i136.toNat) (ap (ap (l177.take (n134 + i136.toNat)) (rp (n135 - i136.toNat) (da [(di 0), (dS (bs [])), (dS (bs [])), (db false), (di 0), (dl false [])]))) (l177.drop ((n134 + i136.toNat) + (n135 - i136.toNat)))).length)) (some (D.tup [(da [(dl b176 (((ap (ap (l177.take (n134 + i136.toNat)) (rp (n135 - i136.toNat) (da [(di 0), (dS (bs [])), (dS (bs [])), (db false), (di 0), (dl false [])]))) (l177.drop ((n134 + i136.toNat) + (n135 - i136.toNat)))).drop (n134 + 0)).take (i136.toNat - 0))), (d156.at 1), (d156.at 2)]), (da [(di 0), (di (nI n45)), (dS (bs [])), (da [(di 0), (dS (bs [])), (dS (bs [])), (db false), (di 0), (dl false [])]), (dl false [])]), (dl b174 ((l175.drop n158).take n159))])) none) none))) | .e1 n89 n90 i91 i92 d93 d94 b95 l96 i97 i98 i99 i100 s101 i102 s103 s104 b105 i106 b107 l108 b109 l110 d111 d112 n113 n114 i115 i116 s117 i118 s119 s120 b121 i122 b123 l124 b125 l126 b127 l128 b129 l130 b131 l132 => (some (D.tup [(da [(dl b131 ((l132.drop 0).take r88.elems.length)), (d111.at 1), (d111.at 2)]), (da [(di 0), (di (nI n45)), (dS (bs [])), (da [(di 0), (dS (bs [])), (dS (bs [])), (db false), (di 0), (dl false [])]), (dl false [])]), (dl b129 ((l130.drop n113).take n114))]))))))
def listS (M : Nat) (p0 p1 : D) : Option D :=
  (goS (st67_3 M) M ⟨0, 0, (p0.at 0), (nI (p0.at 0).elems.length), 0, p0, p1, false, [], 0, 0, 0, 0, (bs []), 0, (bs []), (bs []), false, 0, false, [], false, [], p0, p1, false, [], 0, 0, (bs []), 0, (bs []), (bs []), false, 0, false, [], false, [], false, []⟩ fun x => match x with | .e0 n186 n187 d188 i189 i190 d191 d192 b193 l194 i195 i196 i197 i198 s199 i200 s201 s202 b203 i204 b205 l206 b207 l208 d209 d210 b211 l212 i213 i214 s215 i216 s217 s218 b219 i220 b221 l222 b223 l224 b225 l226 => (goS (st141_2 M) M ⟨n186, n187, (nI n187), 20, 0, 20, d191, d192, b193, l194, i195, i196, i197, i198, s199, i200, s201, s202, b203, i204, b205, l206, b207, l208, d209, d210, b211, l212, i213, i214, s215, i216, s217, s218, b219, i220, b221, l222, b223, l224, b225, l226⟩ fun x => match x with | .e0 n227 n228 i229 i230 i231 i232 d233 d234 b235 l236 i237 i238 i239 i240 s241 i242 s243 s244 b245 i246 b247 l248 b249 l250 d251 d252 b253 l254 i255 i256 s257 i258 s259 s260 b261 i262 b263 l264 b265 l266 b267 l268 => (goS (st150_1 M) M ⟨n227, n228, i231, i229, (ad .i64 i231 1), d233, d234, b235, l236, i237, i238, i239, i240, s241, i242, s243, s244, b245, i246, b247, l248, b249, l250, d251, d252, b253, l254, i255, i256, s257, i258, s259, s260, b261, i262, b263, l264, b265, l266, b267, l268⟩ fun x => match x with | .e0 n269 n270 i271 i272 i273 d274 d275 b276 l277 i278 i279 i280 i281 s282 i283 s284 s285 b286 i287 b288 l289 b290 l291 d292 d293 b294 l295 i296 i297 s298 i299 s300 s301 b302 i303 b304 l305 b306 l307 b308 l309 => (goS (st141_7 M) M ⟨n227, n228, i229, i230, d274, d275, b276, l277, i278, i279, i280, i281, s282, i283, s284, s285, b286, i287, b288, l289, b290, l291, d292, d293, b294, l295, i296, i297, s298, i299, s300, s301, b302, i303, b304, l305, b306, l307, b308, l309⟩ fun x => match x with | .e0 n353 n354 i355 i356 d357 d358 b359 l360 i361 i362 i363 i364 s365 i366 s367 s368 b369 i370 b371 l372 b373 l374 d375 d376 b377 l378 i379 i380 s381 i382 s383 s384 b385 i386 b387 l388 b389 l390 b391 l392 => (some (D.tup [d375, (da [(di 0), (di 0), (dS (bs [])), (da [(di 0), (dS (bs [])), (dS (bs [])), (db false), (di 0), (dl false [])]), (dl b391 ((l392.drop n186).take n187))]), (dl b377 l378)]))))))
end F15
end Go.AM.SZ
namespace Go.AM.SZ
open Go Go.AM
def Res.enc (r : Res) : D := .tup [r.st.enc, r.an.enc, dl r.nn (r.evs.map Ev.enc)]
theorem stay_enc (s : St) (e : Int) : (bd (F33.s FUEL e) fun r => some (D.tup [s.enc, r, dl false []])) = some (stay s e).enc := by
  rw [wrong_spec, bd_some]; rfl
theorem change_spec (s : St) (o : Mo) (hs : StOk s) (ho : MoOk o) : F15.changeS FUEL s.enc o.enc = some (changeM shaL s o).enc := by
  have hl := hs.len
  unfold F15.changeS changeM
  have hn : (o.enc.at 1).s = o.name := rfl
  have h0 : s.enc.at 0 = dl s.nn (s.files.map Fl.enc) := rfl
  have hfl : (s.enc.at 2).i = s.floor := rfl
  rw [hn, h0, hfl]
  refine bdS (find_specM s o.name (by omega)) ?_
  cases hx : findM s o.name with
  | none =>
    dsimp only
    rw [findI_none hx]
    exact ct (by simp) (stay_enc s 3)
  | some i =>
    obtain ⟨hi, hnm⟩ := findM_is hx
    dsimp only
    rw [List.getElem?_eq_getElem hi, findI_some hx]
    dsimp only
    have hf := hs.files _ (List.getElem_mem hi)
    have hie : ix (s.files.map Fl.enc) ((di (i : Int)).i).toNat = s.files[i].enc := by simp [ix_map hi]
    refine cf (by simp) (ct (by simp; omega) ?_)
    simp only [elems_slice, hie]
    refine bdS (fileDo_spec s.files[i] o s.floor s.last hf ho) ?_
    generalize hR : fileDo shaL s.files[i] o s.floor = R
    by_cases h1 : R.2.2 = 0
    · rw [if_pos h1]
      refine cf (by show neI R.2.2 0 = false; simpa using h1) (bdS (clone_files s.nn _ (fun h => by rw [hs.nil h]; rfl) (by simp; omega)) ?_)
      by_cases h6 : o.kind = 6
      · rw [if_pos h6]
        refine ct (by show eqI o.kind 6 = true; simpa using h6) ?_
        have had : ad .i64 (i : Int) 1 = ((i + 1 : Nat) : Int) := by rw [ad64 (by omega) (by omega)]; rfl
        simp only [i_int, elems_slice, nn_slice, had, Int.toNat_natCast, Nat.sub_zero, Nat.zero_add, List.length_map]
        refine ct ?_ (cf (by simp; omega) (ct ?_ (ct ?_ (ct ?_ (ct ?_ ?_)))))
        · simp; omega
        · simp; omega
        · simp; omega
        · simp; omega
        · simp [ap]; omega
        · rw [del_row (i := i) (by simpa using hi) rfl (by rw [List.take_of_length_le]; simp) rfl rfl, eraseIdx_map]
          rfl
      · rw [if_neg h6]
        refine cf (by show eqI o.kind 6 = false; simpa using h6) (ct (by simp; omega) ?_)
        have e1 : (((s.files.map Fl.enc).set (0 + ((di (i : Int)).i).toNat) R.1.enc).drop 0).take (s.files.map Fl.enc).length = (s.files.set i R.1).map Fl.enc := by
          have : 0 + ((di (i : Int)).i).toNat = i := by simp
          rw [this]
          exact row_set (by simp)
        exact congrArg (fun l => some (D.tup [da [dl s.nn l, di s.last, di s.floor], (An.enc ⟨0, (R.1.data.size : Int), bs [], zeroF, false, []⟩), dl true [R.2.1.enc]])) e1
    · rw [if_neg h1]
      exact ct (by show neI R.2.2 0 = true; simpa using h1) (stay_enc s R.2.2)
end Go.AM.SZ
namespace Go.AM.SZ
open Go Go.AM
def x64_3e0 (s : F15.S64_3) : F15.X64_3 := .e0 s.n44 s.n45 s.n46 s.n47 s.i48 s.i49 s.d50 s.d51 s.b52 s.l53 s.i54 s.i55 s.i56 s.i57 s.s58 s.i59 s.s60 s.s61 s.b62 s.i63 s.b64 s.l65 s.b66 s.l67 s.d68 s.d69 s.n70 s.n71 s.i72 s.i73 s.s74 s.i75 s.s76 s.s77 s.b78 s.i79 s.b80 s.l81 s.b82 s.l83 s.b84 s.l85 s.b86 s.l87
def x45_2e0 (s : F15.S45_2) (r133 : D) : F15.X45_2 := .e0 s.n89 s.n90 s.i91 s.i92 s.d93 s.d94 s.b95 s.l96 s.i97 s.i98 s.i99 s.i100 s.s101 s.i102 s.s103 s.s104 s.b105 s.i106 s.b107 s.l108 s.b109 s.l110 s.d111 s.d112 s.n113 s.n114 s.i115 s.i116 s.s117 s.i118 s.s119 s.s120 s.b121 s.i122 s.b123 s.l124 s.b125 s.l126 s.b127 s.l128 s.b129 s.l130 s.b131 s.l132 r133
def x45_2e1 (s : F15.S45_2) : F15.X45_2 := .e1 s.n89 s.n90 s.i91 s.i92 s.d93 s.d94 s.b95 s.l96 s.i97 s.i98 s.i99 s.i100 s.s101 s.i102 s.s103 s.s104 s.b105 s.i106 s.b107 s.l108 s.b109 s.l110 s.d111 s.d112 s.n113 s.n114 s.i115 s.i116 s.s117 s.i118 s.s119 s.s120 s.b121 s.i122 s.b123 s.l124 s.b125 s.l126 s.b127 s.l128 s.b129 s.l130 s.b131 s.l132
def x112_5e0 (s : F15.S112_5) : F15.X112_5 := .e0 s.n134 s.n135 s.i136 s.i137 s.d138 s.d139 s.b140 s.l141 s.i142 s.i143 s.i144 s.i145 s.s146 s.i147 s.s148 s.s149 s.b150 s.i151 s.b152 s.l153 s.b154 s.l155 s.d156 s.d157 s.n158 s.n159 s.i160 s.i161 s.s162 s.i163 s.s164 s.s165 s.b166 s.i167 s.b168 s.l169 s.b170 s.l171 s.b172 s.l173 s.b174 s.l175 s.b176 s.l177 s.d178
def x67_3e0 (s : F15.S67_3) : F15.X67_3 := .e0 s.n186 s.n187 s.d188 s.i189 s.i190 s.d191 s.d192 s.b193 s.l194 s.i195 s.i196 s.i197 s.i198 s.s199 s.i200 s.s201 s.s202 s.b203 s.i204 s.b205 s.l206 s.b207 s.l208 s.d209 s.d210 s.b211 s.l212 s.i213 s.i214 s.s215 s.i216 s.s217 s.s218 s.b219 s.i220 s.b221 s.l222 s.b223 s.l224 s.b225 s.l226
def x141_2e0 (s : F15.S141_2) : F15.X141_2 := .e0 s.n227 s.n228 s.i229 s.i230 s.i231 s.i232 s.d233 s.d234 s.b235 s.l236 s.i237 s.i238 s.i239 s.i240 s.s241 s.i242 s.s243 s.s244 s.b245 s.i246 s.b247 s.l248 s.b249 s.l250 s.d251 s.d252 s.b253 s.l254 s.i255 s.i256 s.s257 s.i258 s.s259 s.s260 s.b261 s.i262 s.b263 s.l264 s.b265 s.l266 s.b267 s.l268
def x150_1e0 (s : F15.S150_1) : F15.X150_1 := .e0 s.n269 s.n270 s.i271 s.i272 s.i273 s.d274 s.d275 s.b276 s.l277 s.i278 s.i279 s.i280 s.i281 s.s282 s.i283 s.s284 s.s285 s.b286 s.i287 s.b288 s.l289 s.b290 s.l291 s.d292 s.d293 s.b294 s.l295 s.i296 s.i297 s.s298 s.i299 s.s300 s.s301 s.b302 s.i303 s.b304 s.l305 s.b306 s.l307 s.b308 s.l309
def x150_4e0 (s : F15.S150_4) (r352 : D) : F15.X150_4 := .e0 s.n310 s.n311 s.i312 s.i313 s.i314 s.i315 s.d316 s.d317 s.b318 s.l319 s.i320 s.i321 s.i322 s.i323 s.s324 s.i325 s.s326 s.s327 s.b328 s.i329 s.b330 s.l331 s.b332 s.l333 s.d334 s.d335 s.b336 s.l337 s.i338 s.i339 s.s340 s.i341 s.s342 s.s343 s.b344 s.i345 s.b346 s.l347 s.b348 s.l349 s.b350 s.l351 r352
def x150_4e1 (s : F15.S150_4) : F15.X150_4 := .e1 s.n310 s.n311 s.i312 s.i313 s.i314 s.i315 s.d316 s.d317 s.b318 s.l319 s.i320 s.i321 s.i322 s.i323 s.s324 s.i325 s.s326 s.s327 s.b328 s.i329 s.b330 s.l331 s.b332 s.l333 s.d334 s.d335 s.b336 s.l337 s.i338 s.i339 s.s340 s.i341 s.s342 s.s343 s.b344 s.i345 s.b346 s.l347 s.b348 s.l349 s.b350 s.l351
def x141_7e0 (s : F15.S141_7) : F15.X141_7 := .e0 s.n353 s.n354 s.i355 s.i356 s.d357 s.d358 s.b359 s.l360 s.i361 s.i362 s.i363 s.i364 s.s365 s.i366 s.s367 s.s368 s.b369 s.i370 s.b371 s.l372 s.b373 s.l374 s.d375 s.d376 s.b377 s.l378 s.i379 s.i380 s.s381 s.i382 s.s383 s.s384 s.b385 s.i386 s.b387 s.l388 s.b389 s.l390 s.b391 s.l392
theorem due_spec (nn : Bool) (l : List Fl) (floor : Int) (hl : l.length ≤ 1048576) : F111.s FUEL (dl nn (l.map Fl.enc)) floor = some (dl (!(dueL l floor).isEmpty) ((dueL l floor).map di)) := by
  unfold F111.s
  refine goS_rule (fun t : F111.S149_1 => ∃ k : Nat, t = ⟨dl nn (l.map Fl.enc), nI l.length, (k : Int), 0, (dueL (l.take k) floor).length, dl nn (l.map Fl.enc), floor, !(dueL (l.take k) floor).isEmpty, (dueL (l.take k) floor).map di⟩ ∧ k ≤ l.length) (fun t => l.length - t.i3.toNat) (fun o => o = some (dl (!(dueL l floor).isEmpty) ((dueL l floor).map di))) ?_ _ _ ⟨0, by simp [dueL], by omega⟩ (by simp [FUEL]; omega)
  rintro _ rec ⟨k, rfl, hk⟩ hrec
  have hdl : (dueL (l.take k) floor).length ≤ k := by
    unfold dueL
    rw [List.length_map]
    exact Nat.le_trans (List.length_filter_le _ _) (by simp; omega)
  simp only [F111.st149_1]
  by_cases h1 : k < l.length
  · have hadd : ad .i64 (k : Int) 1 = ((k + 1 : Nat) : Int) := by rw [ad64 (by omega) (by omega)]; rfl
    have htk : l.take (k + 1) = l.take k ++ [l[k]] := by rw [List.take_succ_eq_append_getElem h1]
    refine ct (by simp; omega) (ct (by simp; omega) ?_)
    simp only [elems_slice, Int.toNat_natCast, ix_map h1]
    refine bdS (may_spec l[k] floor) ?_
    by_cases h2 : mayN l[k] floor = 0
    · have hd : dueL (l.take (k + 1)) floor = dueL (l.take k) floor ++ [l[k].id] := by
        unfold dueL; rw [htk, List.filter_append, List.map_append]; congr 1; simp [h2]
      refine ct (by show eqI (mayN l[k] floor) 0 = true; simpa using h2) (ct (by simp; omega) ?_)
      rw [hadd]
      refine hrec _ ⟨k + 1, ?_, by omega⟩ (by dsimp only; omega)
      rw [hd, F111.S149_1.mk.injEq]
      refine ⟨rfl, rfl, rfl, rfl, by simp, rfl, rfl, by simp, ?_⟩
      rw [List.map_append, ap, List.drop_zero, List.take_of_length_le (by simp)]
      rfl
    · have hd : dueL (l.take (k + 1)) floor = dueL (l.take k) floor := by
        unfold dueL; rw [htk, List.filter_append]; simp [h2]
      refine cf (by show eqI (mayN l[k] floor) 0 = false; simpa using h2) ?_
      rw [hadd]
      refine hrec _ ⟨k + 1, ?_, by omega⟩ (by dsimp only; omega)
      rw [hd]
  · refine cf (by simp; omega) ?_
    have : l.take k = l := List.take_of_length_le (by omega)
    rw [this]
    exact ct (by simp) rfl
theorem loop70 (ids : List Int) (hl : ids.length ≤ 1048576) (s0 : F15.S64_3) (h46 : s0.n46 = 0) (h47 : s0.n47 = ids.length) (h48 : s0.i48 = (ids.length : Int)) (h85 : s0.l85 = ids.map di) (h49 : s0.i49 = 0) (h70 : s0.n70 = 0) (h71 : s0.n71 = 0) (h86 : s0.b86 = false) (h87 : s0.l87 = [])
    (K : F15.X64_3 → Option D) (R : Option D) (hK : K (x64_3e0 { s0 with i49 := (ids.length : Int), n71 := ids.length, b86 := !ids.isEmpty, l87 := (ids.map delEv).map Ev.enc }) = R) : goS (F15.st64_3 FUEL) FUEL s0 K = R := by
  refine goS_rule (fun t : F15.S64_3 => ∃ k : Nat, t = { s0 with i49 := (k : Int), n71 := k, b86 := !(ids.take k).isEmpty, l87 := ((ids.take k).map delEv).map Ev.enc } ∧ k ≤ ids.length) (fun t => ids.length - t.i49.toNat) (fun o => o = R) ?_ _ _ ⟨0, ?_, by omega⟩ (by rw [h49]; simp [FUEL]; omega)
  · rintro _ rec ⟨k, rfl, hk⟩ hrec
    simp only [F15.st64_3, h46, h47, h48, h85, h70]
    by_cases h1 : k < ids.length
    · have hadd : ad .i64 (k : Int) 1 = ((k + 1 : Nat) : Int) := by rw [ad64 (by omega) (by omega)]; rfl
      have htk : ids.take (k + 1) = ids.take k ++ [ids[k]] := by rw [List.take_succ_eq_append_getElem h1]
      refine ct (by simp; omega) (ct (by simp; omega) (ct (by simp; omega) ?_))
      rw [hadd]
      refine hrec _ ⟨k + 1, ?_, by omega⟩ ?_
      rotate_left
      · simp; omega
      rw [F15.S64_3.mk.injEq]
      simp only [h46, h47, h48, h85, h70, true_and, and_true]
      refine ⟨?_, ?_⟩
      · rw [htk]; cases ids.take k <;> rfl
      · rw [htk]
        simp only [List.map_append, List.map_cons, List.map_nil, ap, List.drop_zero]
        rw [List.take_of_length_le (by simp; omega)]
        congr 1
        have e : ix (ids.map di) (0 + (Int.toNat (k : Int))) = di ids[k] := by rw [ix_map (by simpa using h1)]; simp
        rw [e]
        rfl
    · have hkk : k = ids.length := by omega
      refine cf (by simp; omega) ?_
      subst hkk
      rw [List.take_length]
      unfold x64_3e0 at hK
      simp only [h46, h47, h48, h85, h70] at hK ⊢
      exact hK
  · cases s0
    simp only at h49 h71 h86 h87
    subst h49 h71 h86 h87
    simp
def dueB (floor : Int) (f : Fl) : Bool := decide (mayN f floor = 0)
theorem loop38 (fs : List Fl) (floor : Int) (hl : fs.length ≤ 1048576) (s0 : F15.S45_2) (h89 : s0.n89 = 0) (h90 : s0.n90 = fs.length) (h91 : s0.i91 = (fs.length : Int)) (h92 : s0.i92 = 0) (h132 : s0.l132 = fs.map Fl.enc) (h111 : (s0.d111.at 2).i = floor)
    (K : F15.X45_2 → Option D) (R : Option D) (hK0 : ∀ i, fs.findIdx? (dueB floor) = some i → K (x45_2e0 { s0 with i92 := (i : Int) } (di 0)) = R) (hK1 : fs.findIdx? (dueB floor) = none → K (x45_2e1 { s0 with i92 := (fs.length : Int) }) = R) : goS (F15.st45_2 FUEL) FUEL s0 K = R := by
  refine goS_rule (fun t : F15.S45_2 => ∃ k : Nat, t = { s0 with i92 := (k : Int) } ∧ k ≤ fs.length ∧ ∀ i (h : i < fs.length), i < k → dueB floor fs[i] = false) (fun t => fs.length - t.i92.toNat) (fun o => o = R) ?_ _ _ ⟨0, by cases s0; simp only at h92; subst h92; rfl, by omega, by omega⟩ (by rw [h92]; simp [FUEL]; omega)
  rintro _ rec ⟨k, rfl, hk, hlt⟩ hrec
  simp only [F15.st45_2, h89, h90, h91, h132, h111]
  by_cases h1 : k < fs.length
  · have hadd : ad .i64 (k : Int) 1 = ((k + 1 : Nat) : Int) := by rw [ad64 (by omega) (by omega)]; rfl
    have e : ix (fs.map Fl.enc) (0 + (Int.toNat (k : Int))) = fs[k].enc := by rw [Nat.zero_add, Int.toNat_natCast, ix_map h1]
    refine ct (by simp; omega) (ct (by simp; omega) ?_)
    rw [e]
    refine bdS (may_spec fs[k] floor) ?_
    by_cases h2 : mayN fs[k] floor = 0
    · refine ct (by show eqI (mayN fs[k] floor) 0 = true; simpa using h2) ?_
      have := hK0 k (findIdx_some_of h1 hlt (by simpa [dueB] using h2))
      unfold x45_2e0 at this
      simp only [h89, h90, h91, h132, h2] at this ⊢
      exact this
    · refine cf (by show eqI (mayN fs[k] floor) 0 = false; simpa using h2) ?_
      rw [hadd]
      refine hrec _ ⟨k + 1, ?_, by omega, ?_⟩ ?_
      rotate_right
      · simp; omega
      · simp only [h89, h90, h91, h132]
      · intro i hi hik
        by_cases hik' : i = k
        · subst hik'; simpa [dueB] using h2
        · exact hlt i hi (by omega)
  · have hkk : k = fs.length := by omega
    refine cf (by simp; omega) ?_
    subst hkk
    have := hK1 (findIdx_none_of (fun i hi => hlt i hi (by omega)))
    unfold x45_2e1 at this
    simp only [h89, h90, h91, h132] at this ⊢
    exact this
def keptL (floor : Int) (l : List Fl) : List Fl := l.filter fun f => !dueB floor f
theorem loop96 (fs : List Fl) (floor : Int) (hl : fs.length ≤ 1048576) (s0 : F15.S112_5) (i : Nat) (hi : i < fs.length) (h134 : s0.n134 = 0) (h135 : s0.n135 = fs.length) (h136 : s0.i136 = (i : Int)) (h137 : s0.i137 = ((i + 1 : Nat) : Int)) (h177 : s0.l177 = fs.map Fl.enc) (h156 : (s0.d156.at 2).i = floor)
    (hfirst : ∀ j (h : j < fs.length), j < i → dueB floor fs[j] = false) (hdue : dueB floor fs[i] = true)
    (K : F15.X112_5 → Option D) (R : Option D) (hK : ∀ L : List D, L.length = fs.length → L.take (keptL floor fs).length = (keptL floor fs).map Fl.enc → K (x112_5e0 { s0 with i136 := ((keptL floor fs).length : Int), i137 := (fs.length : Int), l177 := L }) = R) : goS (F15.st112_5 FUEL) FUEL s0 K = R := by
  have htake0 : keptL floor (fs.take (i + 1)) = fs.take i := by
    rw [List.take_succ_eq_append_getElem hi]
    unfold keptL
    rw [List.filter_append, List.filter_eq_self.2, List.filter_cons, if_neg (by simp [hdue])]
    · simp
    · intro f hf
      obtain ⟨j, hj, rfl⟩ := List.getElem_of_mem hf
      simp only [List.length_take] at hj
      have := hfirst j (by omega) (by omega)
      simp [this]
  refine goS_rule (fun t : F15.S112_5 => ∃ (k : Nat) (L : List D), t = { s0 with i136 := ((keptL floor (fs.take k)).length : Int), i137 := (k : Int), l177 := L } ∧ k ≤ fs.length ∧ (keptL floor (fs.take k)).length < k ∧ L.length = fs.length ∧ L.take (keptL floor (fs.take k)).length = (keptL floor (fs.take k)).map Fl.enc ∧ L.drop k = (fs.map Fl.enc).drop k) (fun t => fs.length - t.i137.toNat) (fun o => o = R) ?_ _ _ ⟨i + 1, fs.map Fl.enc, ?_, by omega, ?_, by simp, ?_, rfl⟩ (by rw [h137]; simp [FUEL]; omega)
  · rintro _ rec ⟨k, L, rfl, hk, hw, hL, ht, hd⟩ hrec
    simp only [F15.st112_5, h134, h135, h156]
    by_cases h1 : k < fs.length
    · have hadd : ad .i64 (k : Int) 1 = ((k + 1 : Nat) : Int) := by rw [ad64 (by omega) (by omega)]; rfl
      have hget : L[k]'(by omega) = fs[k].enc := by
        have := congrArg (fun l : List D => l[0]?) hd
        simp only [List.getElem?_drop, Nat.add_zero, List.getElem?_map] at this
        rw [List.getElem?_eq_getElem (by omega), List.getElem?_eq_getElem h1] at this
        simpa using this
      have e : ix L (0 + (Int.toNat (k : Int))) = fs[k].enc := by rw [Nat.zero_add, Int.toNat_natCast, ix_eq (by omega), hget]
      have htk : fs.take (k + 1) = fs.take k ++ [fs[k]] := by rw [List.take_succ_eq_append_getElem h1]
      have hd' : L.drop (k + 1) = (fs.map Fl.enc).drop (k + 1) := by
        rw [← List.drop_drop, ← List.drop_drop, hd]
      refine ct (by simp; omega) (ct (by simp; omega) ?_)
      rw [e]
      refine bdS (may_spec fs[k] floor) ?_
      by_cases h2 : mayN fs[k] floor = 0
      · have hkt : keptL floor (fs.take (k + 1)) = keptL floor (fs.take k) := by
          unfold keptL; rw [htk, List.filter_append]; simp [dueB, h2]
        refine cf (by show (!eqI (mayN fs[k] floor) 0) = false; simpa using h2) ?_
        rw [hadd]
        refine hrec _ ⟨k + 1, L, ?_, by omega, by rw [hkt]; omega, hL, by rw [hkt]; exact ht, hd'⟩ ?_
        rotate_left
        · simp; omega
        rw [hkt]
        simp only [h134, h135]
      · have hkt : keptL floor (fs.take (k + 1)) = keptL floor (fs.take k) ++ [fs[k]] := by
          unfold keptL; rw [htk, List.filter_append]; simp [dueB, h2]
        have hadd2 : ad .i64 ((keptL floor (fs.take k)).length : Int) 1 = (((keptL floor (fs.take k)).length + 1 : Nat) : Int) := by rw [ad64 (by omega) (by omega)]; rfl
        refine ct (by show (!eqI (mayN fs[k] floor) 0) = true; simpa using h2) (ct (by simp; omega) ?_)
        rw [hadd, hadd2]
        refine hrec _ ⟨k + 1, L.set (keptL floor (fs.take k)).length fs[k].enc, ?_, by omega, by rw [hkt]; simp; omega, by simpa using hL, ?_, ?_⟩ ?_
        rotate_right
        · simp; omega
        · rw [hkt]
          simp only [h134, h135, List.length_append, List.length_cons, List.length_nil, Nat.zero_add, Int.toNat_natCast]
        · rw [hkt]
          simp only [List.length_append, List.length_cons, List.length_nil, Nat.zero_add, List.map_append, List.map_cons, List.map_nil]
          rw [List.take_succ_eq_append_getElem (by simp; omega), List.take_set_of_le (Nat.le_refl _), ht]
          simp
        · rw [List.drop_set_of_lt (by omega), hd']
    · have hkk : k = fs.length := by omega
      subst hkk
      refine cf (by simp) ?_
      rw [List.take_length] at hw ht ⊢
      have := hK L hL ht
      unfold x112_5e0 at this
      simp only [h134, h135] at this ⊢
      exact this
  · cases s0
    simp only at h136 h137 h177
    subst h136 h137 h177
    rw [htake0]
    simp
    omega
  · rw [htake0]; simp; omega
  · rw [htake0]
    rw [List.map_take]
    congr 1
    simp; omega
end Go.AM.SZ
namespace Go.AM.SZ
open Go Go.AM
theorem sweep_spec (s : St) (o : Mo) (hs : StOk s) : F15.sweepS FUEL s.enc o.enc = some (sweepM s).enc := by
  have hl := hs.len
  have hdl : (dueL s.files s.floor).length ≤ 12 := by
    unfold dueL
    rw [List.length_map]
    exact Nat.le_trans (List.length_filter_le _ _) hl
  unfold F15.sweepS
  have h0 : s.enc.at 0 = dl s.nn (s.files.map Fl.enc) := rfl
  have hfl : (s.enc.at 2).i = s.floor := rfl
  rw [h0, hfl]
  refine bdS (due_spec s.nn s.files s.floor (by omega)) ?_
  refine loop70 (dueL s.files s.floor) (by omega) _ rfl (by simp) (by simp) rfl rfl rfl rfl rfl rfl _ _ ?_
  refine bdS (x := dl s.nn (s.files.map Fl.enc)) (clone_files s.nn _ (fun h => by rw [hs.nil h]; rfl) (by simp; omega)) ?_
  refine loop38 s.files s.floor (by omega) _ rfl (by simp) (by simp) rfl rfl rfl _ _ (fun i hi => ?_) (fun hn => ?_)
  · rw [List.findIdx?_eq_some_iff_getElem] at hi
    obtain ⟨hil, hdue, hfirst⟩ := hi
    refine cf (by show eqI (i : Int) (-1) = false; simp) ?_
    refine loop96 s.files s.floor (by omega) _ i hil rfl (by simp) rfl ?_ rfl rfl (fun j hj hji => by simpa using hfirst j hji) hdue _ _ (fun L hL hT => ?_)
    · show ad .i64 (i : Int) 1 = _
      rw [ad64 (by omega) (by omega)]; rfl
    have hkl : (keptL s.floor s.files).length ≤ s.files.length := List.length_filter_le _ _
    unfold x112_5e0
    dsimp only
    simp only [elems_slice, nn_slice, Int.toNat_natCast, List.length_map]
    refine ct (by simp [hL, hkl]) (ct (by simp [ap, rp, hL]; omega) ?_)
    simp only [Nat.zero_add, Nat.add_zero, Nat.sub_zero, List.drop_zero]
    have e1 : ∀ (Y Z : List D), List.take (keptL s.floor s.files).length (ap (ap (List.take (keptL s.floor s.files).length L) Y) Z) = (keptL s.floor s.files).map Fl.enc := by
      intro Y Z
      rw [← hT]
      simp only [ap, List.append_assoc]
      rw [List.take_append_of_le_length (by simp; omega), List.take_take, Nat.min_self]
    have e2 : List.take (dueL s.files s.floor).length (((dueL s.files s.floor).map delEv).map Ev.enc) = ((dueL s.files s.floor).map delEv).map Ev.enc := List.take_of_length_le (by simp)
    rw [e1, e2]
    rfl
  · rw [List.findIdx?_eq_none_iff] at hn
    have hids : dueL s.files s.floor = [] := by
      unfold dueL
      rw [List.map_eq_nil_iff, List.filter_eq_nil_iff]
      intro f hf
      have := hn f hf
      simpa [dueB] using this
    have hkept : (s.files.filter fun f => !decide (mayN f s.floor = 0)) = s.files := by
      rw [List.filter_eq_self]
      intro f hf
      have := hn f hf
      simpa [dueB] using this
    unfold x45_2e1
    dsimp only
    simp only [elems_slice, nn_slice, List.length_map, List.drop_zero]
    have e1 : List.take s.files.length (s.files.map Fl.enc) = s.files.map Fl.enc := List.take_of_length_le (by simp)
    have e2 : List.take (dueL s.files s.floor).length (((dueL s.files s.floor).map delEv).map Ev.enc) = ((dueL s.files s.floor).map delEv).map Ev.enc := List.take_of_length_le (by simp)
    rw [e1, e2]
    unfold sweepM Res.enc
    rw [hkept]
    rfl
end Go.AM.SZ
namespace Go.AM.SZ
open Go Go.AM
theorem cmp_spec (a b : ByteArray) (ha : a.size ≤ 1048576) (hb : b.size ≤ 1048576) : ∃ n : Int, F116.s FUEL a b = some (di n) ∧ (n < 0 ↔ lessB a b = true) := by
  unfold F116.s
  rw [less_spec a b ha hb, bd_some]
  cases h : lessB a b with
  | true => exact ⟨-1, ct rfl rfl, by simp⟩
  | false =>
    rw [show ∀ x y : Option D, cond (db false).b x y = y from fun _ _ => rfl, less_spec b a hb ha, bd_some]
    cases lessB b a with
    | true => exact ⟨1, ct rfl rfl, by simp⟩
    | false => exact ⟨0, cf rfl rfl, by simp⟩
theorem loop73 (nn : Bool) (fs : List Fl) (hl : fs.length ≤ 1048576) (s0 : F15.S67_3) (h186 : s0.n186 = 0) (h187 : s0.n187 = 0) (h188 : s0.d188 = dl nn (fs.map Fl.enc)) (h189 : s0.i189 = (fs.length : Int)) (h190 : s0.i190 = 0) (h225 : s0.b225 = false) (h226 : s0.l226 = [])
    (K : F15.X67_3 → Option D) (R : Option D) (hK : K (x67_3e0 { s0 with n187 := fs.length, i190 := (fs.length : Int), b225 := !fs.isEmpty, l226 := (fs.map (·.name)).map dS }) = R) : goS (F15.st67_3 FUEL) FUEL s0 K = R := by
  refine goS_rule (fun t : F15.S67_3 => ∃ k : Nat, t = { s0 with n187 := k, i190 := (k : Int), b225 := !(fs.take k).isEmpty, l226 := ((fs.take k).map (·.name)).map dS } ∧ k ≤ fs.length) (fun t => fs.length - t.i190.toNat) (fun o => o = R) ?_ _ _ ⟨0, ?_, by omega⟩ (by rw [h190]; simp [FUEL]; omega)
  · rintro _ rec ⟨k, rfl, hk⟩ hrec
    simp only [F15.st67_3, h186, h188, h189]
    by_cases h1 : k < fs.length
    · have hadd : ad .i64 (k : Int) 1 = ((k + 1 : Nat) : Int) := by rw [ad64 (by omega) (by omega)]; rfl
      have htk : fs.take (k + 1) = fs.take k ++ [fs[k]] := by rw [List.take_succ_eq_append_getElem h1]
      refine ct (by simp; omega) (ct (by simp; omega) (ct (by simp; omega) ?_))
      rw [hadd]
      refine hrec _ ⟨k + 1, ?_, by omega⟩ ?_
      rotate_left
      · simp; omega
      rw [F15.S67_3.mk.injEq]
      simp only [h186, h188, h189, true_and, and_true]
      refine ⟨?_, ?_⟩
      · rw [htk]; cases fs.take k <;> rfl
      · rw [htk]
        simp only [List.map_append, List.map_cons, List.map_nil, ap, List.drop_zero, elems_slice, Int.toNat_natCast]
        rw [List.take_of_length_le (by simp; omega), ix_map h1]
        rfl
    · have hkk : k = fs.length := by omega
      refine cf (by simp; omega) ?_
      subst hkk
      rw [List.take_length]
      unfold x67_3e0 at hK
      simp only [h186, h188, h189] at hK ⊢
      exact hK
  · cases s0
    simp only at h187 h190 h225 h226
    subst h187 h190 h225 h226
    simp
theorem rise_mid {A B : List ByteArray} {x : ByteArray} (h : riseB (A ++ B)) (hB : ∀ b ∈ B, lessB x b = true) (hA : ∀ a ∈ A, lessB a x = true) : riseB (A ++ x :: B) := by
  unfold riseB at h ⊢
  rw [List.pairwise_append] at h ⊢
  refine ⟨h.1, List.pairwise_cons.2 ⟨hB, h.2.1⟩, fun a ha b hb => ?_⟩
  rcases List.mem_cons.1 hb with rfl | hb
  · exact hA a ha
  · exact h.2.2 a ha b hb
theorem loop113_4 (A B rest : List ByteArray) (x : ByteArray) (n : Nat) (hn : n = (A ++ x :: B ++ rest).length) (hn12 : n ≤ 1048576) (hsz : ∀ y ∈ A ++ x :: B ++ rest, y.size ≤ 1048576) (hrise : riseB (A ++ B)) (hxB : ∀ b ∈ B, lessB x b = true) (hxA : x ∉ A)
    (s0 : F15.S150_4) (h310 : s0.n310 = 0) (h311 : s0.n311 = n) (h312 : s0.i312 = 0) (h315 : s0.i315 = (A.length : Int)) (h351 : s0.l351 = (A ++ x :: B ++ rest).map dS)
    (K : F15.X150_4 → Option D) (R : Option D) (hK : ∀ A' B' : List ByteArray, riseB (A' ++ x :: B') → A' ++ B' = A ++ B → (∀ r, K (x150_4e0 { s0 with i315 := (A'.length : Int), l351 := (A' ++ x :: B' ++ rest).map dS } r) = R) ∧ K (x150_4e1 { s0 with i315 := (A'.length : Int), l351 := (A' ++ x :: B' ++ rest).map dS }) = R) :
    goS (F15.st150_4 FUEL) FUEL s0 K = R := by
  refine goS_rule (fun t : F15.S150_4 => ∃ A' B' : List ByteArray, t = { s0 with i315 := (A'.length : Int), l351 := (A' ++ x :: B' ++ rest).map dS } ∧ A' ++ B' = A ++ B ∧ (∀ b ∈ B', lessB x b = true) ∧ x ∉ A') (fun t => t.i315.toNat) (fun o => o = R) ?_ _ _ ⟨A, B, ?_, rfl, hxB, hxA⟩ (by rw [h315]; simp only [List.length_append, List.length_cons] at hn; simp [FUEL]; omega)
  · rintro _ rec ⟨A', B', rfl, hAB, hB', hA'⟩ hrec
    have hrise' : riseB (A' ++ B') := by rw [hAB]; exact hrise
    have hlen : A'.length + B'.length = A.length + B.length := by have := congrArg List.length hAB; simpa using this
    have hmem : ∀ y, y ∈ A' ++ B' ↔ y ∈ A ++ B := fun y => by rw [hAB]
    simp only [F15.st150_4, h310, h311, h312]
    simp only [List.length_append, List.length_cons] at hn
    rcases List.eq_nil_or_concat A' with rfl | ⟨A0, y, rfl⟩
    · refine cf (by simp) ?_
      have := (hK [] B' (rise_mid (A := []) hrise' hB' (by simp)) hAB).2
      unfold x150_4e1 at this
      simp only [h310, h311, h312] at this ⊢
      exact this
    · simp only [List.concat_eq_append] at *
      have hxs : x.size ≤ 1048576 := hsz x (by simp)
      have hys : y.size ≤ 1048576 := by
        have := (hmem y).1 (by simp)
        exact hsz y (by simp at this ⊢; rcases this with h | h <;> simp [h])
      have hlA : ((A0 ++ [y]).length : Int) = ((A0.length + 1 : Nat) : Int) := by simp
      rw [hlA]
      have hsub : sb .i64 ((A0.length + 1 : Nat) : Int) 1 = (A0.length : Int) := by
        simp only [List.length_append, List.length_cons, List.length_nil] at hlen
        rw [sb64 (by omega) (by omega)]; omega
      have hL : ((A0 ++ [y]) ++ x :: B' ++ rest).map dS = A0.map dS ++ dS y :: dS x :: (B' ++ rest).map dS := by simp
      have e1 : ix (A0.map dS ++ dS y :: dS x :: (B' ++ rest).map dS) (0 + (Int.toNat ((A0.length + 1 : Nat) : Int))) = dS x := by
        rw [ix_eq (by simp)]
        simp [List.getElem_append]
      have e2 : ix (A0.map dS ++ dS y :: dS x :: (B' ++ rest).map dS) (0 + (Int.toNat (A0.length : Int))) = dS y := by
        rw [ix_eq (by simp)]
        simp [List.getElem_append]
      simp only [List.length_append, List.length_cons, List.length_nil] at hlen
      rw [hL, hsub, e1, e2]
      refine ct (by simp only [gtI_t]; omega) (ct (by simp only [inb_t]; omega) (ct (by simp only [inb_t]; omega) ?_))
      obtain ⟨c, hc1, hc2⟩ := cmp_spec x y hxs hys
      refine bdS hc1 ?_
      by_cases hlt : lessB x y = true
      · refine ct (by have := hc2.2 hlt; simpa using this) (ct (by simp only [inb_t]; omega) (ct (by simp only [inb_t]; omega) (ct (by simp only [inb_t]; omega) (ct (by simp only [inb_t]; omega) ?_))))
        have e3 : ((A0.map dS ++ dS y :: dS x :: (B' ++ rest).map dS).set (0 + (Int.toNat ((A0.length + 1 : Nat) : Int))) (dS y)).set (0 + (Int.toNat (A0.length : Int))) (dS x) = (A0 ++ x :: (y :: B') ++ rest).map dS := by
          simp [List.set_append]
        rw [e3]
        refine hrec _ ⟨A0, y :: B', ?_, by rw [← hAB]; simp, ?_, fun h => hA' (by simp [h])⟩ ?_
        · simp only [h310, h311, h312]
        · intro b hb
          rcases List.mem_cons.1 hb with rfl | hb
          · exact hlt
          · exact hB' b hb
        · simp
      · refine cf (by have : ¬ c < 0 := fun h => hlt (hc2.1 h); simp; omega) ?_
        have hyx : lessB y x = true := less_of_not (by simpa using hlt) (fun e => hA' (by simp [e]))
        have hall : ∀ a ∈ A0 ++ [y], lessB a x = true := by
          intro a ha
          rcases List.mem_append.1 ha with ha | ha
          · have hp := (List.pairwise_append.1 hrise').1
            exact less_trans ((List.pairwise_append.1 hp).2.2 a ha y (by simp)) hyx
          · simp only [List.mem_singleton] at ha; subst ha; exact hyx
        have := (hK (A0 ++ [y]) B' (rise_mid hrise' hB' hall) hAB).1 (di c)
        unfold x150_4e0 at this
        simp only [h310, h311, h312] at this ⊢
        rw [hL, hlA] at this
        exact this
  · cases s0
    simp only at h315 h351
    subst h315 h351
    rfl
theorem loop113_1 (names : List ByteArray) (n : Nat) (hn : n = names.length) (hn12 : n ≤ 1000000) (hsz : ∀ y ∈ names, y.size ≤ 1048576) (hnd : names.Nodup)
    (s0 : F15.S150_1) (h269 : s0.n269 = 0) (h270 : s0.n270 = n) (h271 : s0.i271 = 0) (h272 : s0.i272 = (n : Int)) (h273 : s0.i273 = 1) (h309 : s0.l309 = names.map dS)
    (K : F15.X150_1 → Option D) (R : Option D) (hK : ∀ i : Int, K (x150_1e0 { s0 with i273 := i, l309 := (sortN names).map dS }) = R) : goS (F15.st150_1 FUEL) FUEL s0 K = R := by
  refine goS_rule (fun t : F15.S150_1 => ∃ (k : Nat) (l : List ByteArray), t = { s0 with i273 := (k : Int), l309 := l.map dS } ∧ 1 ≤ k ∧ (k ≤ n ∨ k = 1) ∧ l.Perm names ∧ riseB (l.take k)) (fun t => n - t.i273.toNat) (fun o => o = R) ?_ _ _ ⟨1, names, ?_, by omega, .inr rfl, List.Perm.refl _, ?_⟩ (by rw [h273]; simp [FUEL]; omega)
  · rintro _ rec ⟨k, l, rfl, hk1, hk2, hp, hr⟩ hrec
    have hll : l.length = n := by rw [hn]; exact hp.length_eq
    have hlnd : l.Nodup := hp.nodup_iff.2 hnd
    simp only [F15.st150_1, h269, h270, h271, h272]
    by_cases h1 : k < n
    · have hadd : ad .i64 (k : Int) 1 = ((k + 1 : Nat) : Int) := by rw [ad64 (by omega) (by omega)]; rfl
      have hsplit : l = l.take k ++ l[k] :: [] ++ l.drop (k + 1) := by simp
      refine ct (by simp; omega) ?_
      have hxA : l[k] ∉ l.take k := by
        intro h
        obtain ⟨j, hj, he⟩ := List.getElem_of_mem h
        simp only [List.length_take] at hj
        rw [List.getElem_take] at he
        exact (List.pairwise_iff_getElem.1 hlnd) j k (by omega) (by omega) (by omega) he
      refine loop113_4 (l.take k) [] (l.drop (k + 1)) l[k] n (by rw [← hsplit]; exact hll.symm) (by omega) (fun y hy => hsz y (hp.mem_iff.1 (by rw [← hsplit] at hy; exact hy))) (by simpa using hr) (by simp) hxA _ rfl rfl rfl (by show (k : Int) = _; simp; omega) (by show l.map dS = _; rw [← hsplit]) _ _ (fun A' B' hr' hab => ?_)
      · have hlen : A'.length + B'.length = k := by have := congrArg List.length hab; simp at this; omega
        have hperm : (A' ++ l[k] :: B' ++ l.drop (k + 1)).Perm l := by
          have h2 : (A' ++ l[k] :: B').Perm (l.take k ++ [l[k]]) := by
            refine List.perm_middle.trans (((List.Perm.of_eq hab).cons _).trans ?_)
            rw [List.append_nil]
            exact (List.perm_append_singleton _ _).symm
          have h3 := h2.append_right (l.drop (k + 1))
          have h4 : l.take k ++ [l[k]] ++ l.drop (k + 1) = l := by simp
          rw [h4] at h3
          exact h3
        have hfin : rec { s0 with i273 := ad .i64 (k : Int) 1, l309 := (A' ++ l[k] :: B' ++ l.drop (k + 1)).map dS } = R := by
          rw [hadd]
          refine hrec _ ⟨k + 1, A' ++ l[k] :: B' ++ l.drop (k + 1), rfl, by omega, by omega, hperm.trans hp, ?_⟩ ?_
          · rw [List.take_append_of_le_length (by simp; omega), List.take_of_length_le (by simp; omega)]
            exact hr'
          · simp; omega
        rw [h269, h270, h271, h272] at hfin
        exact ⟨fun r => hfin, hfin⟩
    · refine cf (by simp; omega) ?_
      have hfull : l.take k = l := List.take_of_length_le (by omega)
      rw [hfull] at hr
      have hl : l = sortN names := rise_eq hr (sortN_rise hnd) (hp.trans (sortN_perm names).symm)
      subst hl
      have := hK (k : Int)
      unfold x150_1e0 at this
      simp only [h269, h270, h271, h272] at this ⊢
      exact this
  · cases s0
    simp only at h273 h309
    subst h273 h309
    rfl
  · unfold riseB
    cases names with
    | nil => simp
    | cons a l => simp
end Go.AM.SZ
namespace Go.AM.SZ
open Go Go.AM
theorem loop108_2 (s0 : F15.S141_2) (h : s0.i229 < s0.i232) (K : F15.X141_2 → Option D) (R : Option D) (hK : K (x141_2e0 s0) = R) : goS (F15.st141_2 FUEL) FUEL s0 K = R := by
  refine goS_rule (fun t : F15.S141_2 => t = s0) (fun _ => 0) (fun o => o = R) ?_ _ _ rfl (by simp)
  rintro s1 rec rfl hrec
  cases s1
  simp only [F15.st141_2]
  exact cf (by simpa using h) hK
theorem loop108_7 (s0 : F15.S141_7) (h : s0.i355 ≤ s0.i356) (K : F15.X141_7 → Option D) (R : Option D) (hK : K (x141_7e0 s0) = R) : goS (F15.st141_7 FUEL) FUEL s0 K = R := by
  refine goS_rule (fun t : F15.S141_7 => t = s0) (fun _ => 0) (fun o => o = R) ?_ _ _ rfl (by simp)
  rintro s1 rec rfl hrec
  cases s1
  simp only [F15.st141_7]
  exact cf (by simpa using h) hK
theorem names_nodup {s : St} (hs : StOk s) : (s.files.map (·.name)).Nodup := by
  unfold List.Nodup
  rw [List.pairwise_map]
  exact hs.names
theorem list_spec (s : St) (o : Mo) (hs : StOk s) : F15.listS FUEL s.enc o.enc = some (listM s).enc := by
  have hl := hs.len
  unfold F15.listS
  have h0 : s.enc.at 0 = dl s.nn (s.files.map Fl.enc) := rfl
  rw [h0]
  refine loop73 s.nn s.files (by omega) _ rfl rfl rfl (by simp) rfl rfl rfl _ _ ?_
  unfold x67_3e0
  dsimp only
  refine loop108_2 _ (by simp; omega) _ _ ?_
  unfold x141_2e0
  dsimp only
  refine loop113_1 (s.files.map (·.name)) s.files.length (by simp) (by omega) (fun y hy => ?_) (names_nodup hs) _ rfl rfl rfl (by simp) ?_ rfl _ _ (fun i => ?_)
  · obtain ⟨f, hf, rfl⟩ := List.mem_map.1 hy
    have := (hs.files f hf).nsz; omega
  · show ad .i64 0 1 = 1
    rw [ad64 (by omega) (by omega)]; rfl
  unfold x150_1e0
  dsimp only
  refine loop108_7 _ (by simp; omega) _ _ ?_
  unfold x141_7e0
  dsimp only
  have e : List.take s.files.length (List.drop 0 ((sortN (s.files.map (·.name))).map dS)) = (sortN (s.files.map (·.name))).map dS := by
    rw [List.drop_zero, List.take_of_length_le]
    have := (sortN_perm (s.files.map (·.name))).length_eq
    simp at this ⊢; omega
  rw [e]
  rfl
theorem create_spec (s : St) (o : Mo) (hs : StOk s) (ho : MoOk o) : F15.createS FUEL s.enc o.enc = some (createM s o).enc := by
  have hl := hs.len
  have l0 := hs.last0
  have l1 := hs.last1
  unfold F15.createS createM
  have hn : (o.enc.at 1).s = o.name := rfl
  have h0 : s.enc.at 0 = dl s.nn (s.files.map Fl.enc) := rfl
  have hla : (s.enc.at 1).i = s.last := rfl
  have hon := ho.name
  rw [hn, h0, hla]
  refine bdS (name_spec o.name (by omega)) ?_
  cases hv : nameB o.name with
  | false => rw [if_pos rfl]; exact ct rfl (stay_enc s 2)
  | true =>
    rw [if_neg (by simp)]
    refine cf rfl (bdS (find_specM s o.name (by omega)) ?_)
    by_cases h1 : 0 ≤ findI (fun f : Fl => decide (f.name = o.name)) s.files
    · rw [if_pos h1]; exact ct (by simpa using h1) (stay_enc s 4)
    rw [if_neg h1]
    refine cf (by simp only [geI_f, i_int]; omega) ?_
    by_cases h2 : 12 ≤ s.files.length
    · rw [if_pos h2]; exact ct (by simp; omega) (stay_enc s 10)
    rw [if_neg h2]
    refine cf (by simp; omega) ?_
    by_cases h3 : 1099511627776 ≤ s.last
    · rw [if_pos h3]; exact ct (by simpa using h3) (stay_enc s 10)
    rw [if_neg h3]
    refine cf (by simp; omega) ?_
    have hadd : ad .i64 s.last 1 = s.last + 1 := by rw [ad64 (by omega) (by omega)]
    have hnew : newF (s.last + 1) o.name = (⟨s.last + 1, o.name, bs [], false, 0, false, []⟩, 0) := by
      unfold newF
      rw [if_neg (by simp [hv]), if_pos (by omega)]
    refine bdS (by rw [hadd]; exact new_spec (s.last + 1) o.name (by omega)) ?_
    rw [hnew]
    refine cf rfl (bdS (clone_files s.nn _ (fun h => by rw [hs.nil h]; rfl) (by simp; omega)) (ct (by simp; omega) ?_))
    have e : ((ap (((s.files.map Fl.enc).drop 0).take (s.files.map Fl.enc).length) [Fl.enc ⟨s.last + 1, o.name, bs [], false, 0, false, []⟩]).drop 0).take ((s.files.map Fl.enc).length + 1) = (s.files ++ [(⟨s.last + 1, o.name, bs [], false, 0, false, []⟩ : Fl)]).map Fl.enc := by
      rw [List.drop_zero, List.drop_zero, ap, List.take_of_length_le (l := s.files.map Fl.enc) (Nat.le_refl _), List.take_of_length_le (by simp)]
      simp
    have e2 : (s.nn || true) = true := by simp
    refine Eq.trans ?_ (congrArg (fun l => some (D.tup [da [dl true l, di (s.last + 1), di s.floor], (An.enc ⟨0, s.last + 1, bs [], zeroF, false, []⟩), dl true [Ev.enc ⟨0, s.last + 1, o.name, 0, 0, zeros⟩]])) e)
    show some (D.tup [da [dl (s.nn || true) _, _, _], _, _]) = _
    rw [e2]
    rfl
theorem do_specM (s : St) (o : Mo) (hs : StOk s) (ho : MoOk o) : F15.s FUEL s.enc o.enc = some (doM shaL s o).enc := by
  have hl := hs.len
  unfold F15.s
  by_cases hneg : o.kind < 0
  · have hR : doM shaL s o = stay s 1 := by unfold doM; rw [if_pos hneg]
    rw [hR]
    exact ct (by show ltI o.kind 0 = true; simpa using hneg) (stay_enc s 1)
  refine cf (by show ltI o.kind 0 = false; simp; omega) ?_
  by_cases hbig : 12 ≤ o.kind
  · have hR : doM shaL s o = stay s 1 := by unfold doM; rw [if_neg hneg, if_pos hbig]
    rw [hR]
    exact ct (by show geI o.kind 12 = true; simpa using hbig) (stay_enc s 1)
  refine cf (by show geI o.kind 12 = false; simp; omega) (ct (by show inb o.kind 12 = true; simp; omega) ?_)
  by_cases h0 : o.kind = 0
  · have hR : doM shaL s o = createM s o := by
      unfold doM
      repeat (first | rw [if_neg (by omega)] | rw [if_pos (by omega)])
    rw [hR]
    refine ct (by show (o.kind.toNat == 0) = true; rw [h0]; rfl) ?_
    exact create_spec s o hs ho
  refine cf (by show (o.kind.toNat == 0) = false; simp; omega) ?_
  by_cases h1 : o.kind = 1
  · have hR : doM shaL s o = changeM shaL s o := by
      unfold doM
      repeat (first | rw [if_neg (by omega)] | rw [if_pos (by omega)])
    rw [hR]
    refine ct (by show ((o.kind.toNat - 1) == 0) = true; rw [h1]; rfl) ?_
    exact change_spec s o hs ho
  refine cf (by show ((o.kind.toNat - 1) == 0) = false; simp; omega) ?_
  by_cases h2 : o.kind = 2
  · have hR : doM shaL s o = changeM shaL s o := by
      unfold doM
      repeat (first | rw [if_neg (by omega)] | rw [if_pos (by omega)])
    rw [hR]
    refine ct (by show (((o.kind.toNat - 1) - 1) == 0) = true; rw [h2]; rfl) ?_
    exact change_spec s o hs ho
  refine cf (by show (((o.kind.toNat - 1) - 1) == 0) = false; simp; omega) ?_
  by_cases h3 : o.kind = 3
  · have hR : doM shaL s o = changeM shaL s o := by
      unfold doM
      repeat (first | rw [if_neg (by omega)] | rw [if_pos (by omega)])
    rw [hR]
    refine ct (by show ((((o.kind.toNat - 1) - 1) - 1) == 0) = true; rw [h3]; rfl) ?_
    exact change_spec s o hs ho
  refine cf (by show ((((o.kind.toNat - 1) - 1) - 1) == 0) = false; simp; omega) ?_
  by_cases h4 : o.kind = 4
  · have hR : doM shaL s o = changeM shaL s o := by
      unfold doM
      repeat (first | rw [if_neg (by omega)] | rw [if_pos (by omega)])
    rw [hR]
    refine ct (by show (((((o.kind.toNat - 1) - 1) - 1) - 1) == 0) = true; rw [h4]; rfl) ?_
    exact change_spec s o hs ho
  refine cf (by show (((((o.kind.toNat - 1) - 1) - 1) - 1) == 0) = false; simp; omega) ?_
  by_cases h5 : o.kind = 5
  · have hR : doM shaL s o = changeM shaL s o := by
      unfold doM
      repeat (first | rw [if_neg (by omega)] | rw [if_pos (by omega)])
    rw [hR]
    refine ct (by show ((((((o.kind.toNat - 1) - 1) - 1) - 1) - 1) == 0) = true; rw [h5]; rfl) ?_
    exact change_spec s o hs ho
  refine cf (by show ((((((o.kind.toNat - 1) - 1) - 1) - 1) - 1) == 0) = false; simp; omega) ?_
  by_cases h6 : o.kind = 6
  · have hR : doM shaL s o = changeM shaL s o := by
      unfold doM
      repeat (first | rw [if_neg (by omega)] | rw [if_pos (by omega)])
    rw [hR]
    refine ct (by show (((((((o.kind.toNat - 1) - 1) - 1) - 1) - 1) - 1) == 0) = true; rw [h6]; rfl) ?_
    exact change_spec s o hs ho
  refine cf (by show (((((((o.kind.toNat - 1) - 1) - 1) - 1) - 1) - 1) == 0) = false; simp; omega) ?_
  by_cases h7 : o.kind = 7
  · have hR : doM shaL s o = tickM s o := by
      unfold doM
      repeat (first | rw [if_neg (by omega)] | rw [if_pos (by omega)])
    rw [hR]
    refine ct (by show ((((((((o.kind.toNat - 1) - 1) - 1) - 1) - 1) - 1) - 1) == 0) = true; rw [h7]; rfl) ?_
    refine bdS (floor_spec s.floor o.time) ?_
    unfold tickM
    by_cases hf : floorN s.floor o.time = s.floor
    · rw [if_pos hf]
      exact cf (by show neI (floorN s.floor o.time) s.floor = false; simpa using hf) rfl
    · rw [if_neg hf]
      exact ct (by show neI (floorN s.floor o.time) s.floor = true; simpa using hf) rfl
  refine cf (by show ((((((((o.kind.toNat - 1) - 1) - 1) - 1) - 1) - 1) - 1) == 0) = false; simp; omega) ?_
  by_cases h8 : o.kind = 8
  · have hR : doM shaL s o = sweepM s := by
      unfold doM
      repeat (first | rw [if_neg (by omega)] | rw [if_pos (by omega)])
    rw [hR]
    refine ct (by show (((((((((o.kind.toNat - 1) - 1) - 1) - 1) - 1) - 1) - 1) - 1) == 0) = true; rw [h8]; rfl) ?_
    exact sweep_spec s o hs
  refine cf (by show (((((((((o.kind.toNat - 1) - 1) - 1) - 1) - 1) - 1) - 1) - 1) == 0) = false; simp; omega) ?_
  by_cases h9 : o.kind = 9
  · have hR : doM shaL s o = readM s o := by
      unfold doM
      repeat (first | rw [if_neg (by omega)] | rw [if_pos (by omega)])
    rw [hR]
    refine ct (by show ((((((((((o.kind.toNat - 1) - 1) - 1) - 1) - 1) - 1) - 1) - 1) - 1) == 0) = true; rw [h9]; rfl) ?_
    unfold readM
    refine bdS (find_specM s o.name (by omega)) ?_
    cases hx : findM s o.name with
    | none =>
      dsimp only
      rw [findI_none hx]
      exact ct (by simp) (stay_enc s 3)
    | some i =>
      obtain ⟨hi, hnm⟩ := findM_is hx
      dsimp only
      rw [List.getElem?_eq_getElem hi, findI_some hx]
      dsimp only
      have hie : ix (s.enc.at 0).elems ((di (i : Int)).i).toNat = s.files[i].enc := by
        show ix (s.files.map Fl.enc) (i : Int).toNat = _
        rw [Int.toNat_natCast, ix_map hi]
      refine cf (by simp) (ct (by show inb (i : Int) (s.files.map Fl.enc).length = true; simp; omega) ?_)
      rw [hie]
      exact bdS (read_spec s.files[i] o.a o.b) rfl
  refine cf (by show ((((((((((o.kind.toNat - 1) - 1) - 1) - 1) - 1) - 1) - 1) - 1) - 1) == 0) = false; simp; omega) ?_
  by_cases h10 : o.kind = 10
  · have hR : doM shaL s o = statM s o := by
      unfold doM
      repeat (first | rw [if_neg (by omega)] | rw [if_pos (by omega)])
    rw [hR]
    refine ct (by show (((((((((((o.kind.toNat - 1) - 1) - 1) - 1) - 1) - 1) - 1) - 1) - 1) - 1) == 0) = true; rw [h10]; rfl) ?_
    unfold statM
    refine bdS (find_specM s o.name (by omega)) ?_
    cases hx : findM s o.name with
    | none =>
      dsimp only
      rw [findI_none hx]
      exact ct (by simp) (stay_enc s 3)
    | some i =>
      obtain ⟨hi, hnm⟩ := findM_is hx
      dsimp only
      rw [List.getElem?_eq_getElem hi, findI_some hx]
      dsimp only
      have hie : ix (s.enc.at 0).elems ((di (i : Int)).i).toNat = s.files[i].enc := by
        show ix (s.files.map Fl.enc) (i : Int).toNat = _
        rw [Int.toNat_natCast, ix_map hi]
      refine cf (by simp) (ct (by show inb (i : Int) (s.files.map Fl.enc).length = true; simp; omega) ?_)
      rw [hie]
      exact bdS (meta_spec s.files[i]) rfl
  refine cf (by show (((((((((((o.kind.toNat - 1) - 1) - 1) - 1) - 1) - 1) - 1) - 1) - 1) - 1) == 0) = false; simp; omega) ?_
  by_cases h11 : o.kind = 11
  · have hR : doM shaL s o = listM s := by
      unfold doM
      repeat (first | rw [if_neg (by omega)] | rw [if_pos (by omega)])
    rw [hR]
    refine ct (by show ((((((((((((o.kind.toNat - 1) - 1) - 1) - 1) - 1) - 1) - 1) - 1) - 1) - 1) - 1) == 0) = true; rw [h11]; rfl) ?_
    exact list_spec s o hs
  refine cf (by show ((((((((((((o.kind.toNat - 1) - 1) - 1) - 1) - 1) - 1) - 1) - 1) - 1) - 1) - 1) == 0) = false; simp; omega) ?_
  omega
end Go.AM.SZ
namespace Go.AM.SZ
open Go Go.AM
def Run.enc (r : Run) : D := .tup [r.st.enc, dl r.nnA (r.ans.map An.enc), dl r.nnE (r.evs.map Ev.enc)]
theorem do_evs_len {sum : ByteArray → List Int} {s : St} {o : Mo} (hs : StOk s) : (doM sum s o).evs.length ≤ 12 := by
  unfold doM
  repeat' split
  · simp [stay]
  · simp [stay]
  · unfold createM; repeat' split
    all_goals simp [stay]
  · unfold tickM; split <;> simp
  · have := hs.len
    simp only [sweepM, dueL, List.length_map]
    exact Nat.le_trans (List.length_filter_le _ _) this
  · unfold readM; repeat' split
    all_goals simp [stay]
  · unfold statM; repeat' split
    all_goals simp [stay]
  · simp [listM]
  · unfold changeM; repeat' split
    all_goals simp [stay]
def oneM (o : Mo) : Bool := decide (o.text.size ≤ 700) && decide (o.name.size ≤ 200)
def fewM (l : List Mo) : Bool := decide (l.length ≤ 30) && (l.take 31).all oneM
theorem few_specM (nn : Bool) (l : List Mo) : F7.s FUEL (dl nn (l.map Mo.enc)) = some (db (fewM l)) := by
  unfold F7.s
  refine goS_rule (fun t : F7.S2 => ∃ k : Nat, t = ⟨dl nn (l.map Mo.enc), (k : Int)⟩ ∧ k ≤ 31 ∧ ∀ i (h : i < l.length), i < k → oneM l[i] = true) (fun t => 31 - t.i2.toNat) (fun o => o = some (db (fewM l))) ?_ _ _ ⟨0, rfl, by omega, by omega⟩ (by simp [FUEL])
  rintro _ rec ⟨k, rfl, hk, hs⟩ hrec
  have hall : (∀ i (h : i < l.length), i ≤ 30 → oneM l[i] = true) → (l.take 31).all oneM = true := by
    intro h
    simp only [List.all_eq_true]
    intro e he
    obtain ⟨i, hi, rfl⟩ := List.getElem_of_mem he
    simp at hi ⊢
    exact h i (by omega) (by omega)
  have hno : ∀ (h1 : k < l.length), k ≤ 30 → oneM l[k] = false → fewM l = false := by
    intro h1 h2 h3
    have : (l.take 31).all oneM = false := by
      rw [List.all_eq_false]
      refine ⟨l[k], ?_, by simp [h3]⟩
      rw [List.mem_take_iff_getElem]
      exact ⟨k, by omega, rfl⟩
    simp [fewM, this]
  simp only [F7.st2]
  by_cases h1 : k < l.length
  · refine ct (by simp; omega) ?_
    by_cases h2 : k ≤ 30
    · refine ct (by simp; omega) (ct (by simp; omega) ?_)
      simp only [elems_slice, Int.toNat_natCast, ix_map h1]
      have ht : ((l[k].enc.at 2).s) = l[k].text := rfl
      have hn : ((l[k].enc.at 1).s) = l[k].name := rfl
      rw [ht, hn]
      by_cases h3 : l[k].text.size ≤ 700
      · refine cf (by simp; omega) (ct (by simp; omega) ?_)
        by_cases h4 : l[k].name.size ≤ 200
        · refine cf (by simp; omega) ?_
          have hadd : ad .i64 (k : Int) 1 = ((k + 1 : Nat) : Int) := by rw [ad64 (by omega) (by omega)]; rfl
          rw [hadd]
          refine hrec _ ⟨k + 1, rfl, by omega, ?_⟩ (by simp; omega)
          intro i hi hik
          by_cases hik' : i = k
          · subst hik'; simp [oneM, h3, h4]
          · exact hs i hi (by omega)
        · refine ct (by simp; omega) ?_
          rw [hno h1 h2 (by simp [oneM, h4])]
      · refine ct (by simp; omega) ?_
        rw [hno h1 h2 (by simp [oneM, h3])]
    · refine cf (by simp; omega) ?_
      have : ¬ l.length ≤ 30 := by omega
      simp [fewM, this, leI]
      try omega
  · refine cf (by simp; omega) ?_
    have := hall (fun i hi hi2 => hs i hi (by omega))
    simp [fewM, this, leI]
    omega
structure Mo.ok (o : Mo) : Prop where
  kind : i64ok o.kind
  time : i64ok o.time
  a : i64ok o.a
  b : i64ok o.b
theorem mo_of {d : D} (h : D.has ty d (.struct [50, 9, 9, 3, 3, 3])) (hw : D.wf d) : ∃ o : Mo, d = o.enc ∧ o.ok := by
  obtain ⟨ds, rfl, hh⟩ := hass_struct h
  clear h
  have hf : List.map ty [50, 9, 9, 3, 3, 3] = [.int .i64, .str, .str, .int .i64, .int .i64, .int .i64] := rfl
  rw [hf] at hh
  obtain ⟨d0, _, rfl, h0, hh⟩ := hassC hh
  obtain ⟨d1, _, rfl, h1, hh⟩ := hassC hh
  obtain ⟨d2, _, rfl, h2, hh⟩ := hassC hh
  obtain ⟨d3, _, rfl, h3, hh⟩ := hassC hh
  obtain ⟨d4, _, rfl, h4, hh⟩ := hassC hh
  obtain ⟨d5, _, rfl, h5, hh⟩ := hassC hh
  obtain rfl := hass0 hh
  obtain ⟨x0, rfl⟩ := has_int h0
  obtain ⟨x1, rfl⟩ := has_str h1
  obtain ⟨x2, rfl⟩ := has_str h2
  obtain ⟨x3, rfl⟩ := has_int h3
  obtain ⟨x4, rfl⟩ := has_int h4
  obtain ⟨x5, rfl⟩ := has_int h5
  rw [D.wf] at hw
  simp only [D.wfs] at hw
  exact ⟨⟨x0, x1, x2, x3, x4, x5⟩, rfl, wf_i64 hw.1, wf_i64 hw.2.2.2.1, wf_i64 hw.2.2.2.2.1, wf_i64 hw.2.2.2.2.2.1⟩
theorem mos_of {d : D} (h : D.has ty d (.slice 52)) (hw : D.wf d) : ∃ (nn : Bool) (l : List Mo), d = dl nn (l.map Mo.enc) ∧ ∀ o ∈ l, o.ok := by
  obtain ⟨nn, ds, rfl, h1, h2⟩ := hass_slice h
  simp only [D.wf] at hw
  obtain ⟨l, rfl, _, hl⟩ := hass_rep (f := Mo.enc) (Q := fun o : Mo => o.ok) (fun d h1 h2 => mo_of h1 h2) h1 (by first | exact hw | exact hw.1 | exact hw.2)
  exact ⟨nn, l, rfl, hl⟩
theorem few_okM {l : List Mo} (h : fewM l = true) (hs : ∀ o ∈ l, o.ok) : l.length ≤ 30 ∧ ∀ o ∈ l, MoOk o := by
  unfold fewM at h
  simp only [Bool.and_eq_true, decide_eq_true_eq, List.all_eq_true] at h
  refine ⟨h.1, fun o ho => ?_⟩
  have h2 := h.2 o (by rw [List.take_of_length_le (by omega)]; exact ho)
  simp only [oneM, Bool.and_eq_true, decide_eq_true_eq] at h2
  exact ⟨(hs o ho).kind, (hs o ho).time, (hs o ho).a, (hs o ho).b, by omega, by omega⟩
end Go.AM.SZ
