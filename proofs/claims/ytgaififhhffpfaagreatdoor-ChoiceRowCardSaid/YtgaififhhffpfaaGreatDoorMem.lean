/- A guest's memory that lies in a host's: what the program's two memories hold, and the contracts of guest.Mem's Get and Set. -/
import Derived.Test.YtgaififhhffpfaaGreatDoorChecked
import Derived.Test.YtgaififhhffpfaaGreatDoorBlk
import Derived.WalkLawsBesides
import Derived.Handy
import Derived.Deep.QuietTactic
import Derived.BigQuiet
namespace Go.Proofs.YtgaififhhffpfaaGreatDoor
open Go.RowKit

def u64 (v : Nat) : Value := .int .u64 (v : Int)
def i64 (v : Nat) : Value := .int .i64 (v : Int)

/-- A host's memory at fp: n frames in block fb, whose words are mem. -/
structure Host (w : World) (fp fb n : Nat) (mem : List Nat) : Prop where
  hdr : Blk w fp 158 [.slice (some ⟨fb, 0, none⟩) n n]
  row : Blk w fb 217 (mem.map u64)
  len : mem.length = 8 * n
  small : n ≤ 256
  bd : ∀ v, v ∈ mem → v < 2 ^ 64

/-- A guest's memory at p: map gp (its list in block hb, its table the map mb), host's memory fp. -/
structure Guest (w : World) (p gp hb mb fp : Nat) (hosts : List Nat) (cap n : Nat) : Prop where
  hdr : Blk w p 120 [.pointer (some ⟨gp, 0, none⟩), .pointer (some ⟨fp, 0, none⟩)]
  gm : Blk w gp 162 [.slice (some ⟨hb, 0, none⟩) hosts.length cap, .map (some mb)]
  row : ∃ sp, Blk w hb 3 (hosts.map i64 ++ sp)
  len : hosts.length ≤ 64
  bd : ∀ h, h ∈ hosts → h < n

/-- where a guest's word lies in its host's words -/
def place (hosts : List Nat) (g i : Int) : Option Nat :=
  if 0 ≤ g ∧ g < hosts.length ∧ 0 ≤ i ∧ i < 8 then (hosts[g.toNat]?).map (fun h => 8 * h + i.toNat) else none
def rd (hosts mem : List Nat) (g i : Int) : Option Nat := (place hosts g i).bind fun k => mem[k]?

theorem get_yes (w : World) (p gp hb mb fp fb : Nat) (hosts mem : List Nat) (cap n g i : Nat) (H : Host w fp fb n mem) (G : Guest w p gp hb mb fp hosts cap n)
    (hg : g < hosts.length) (hi : i < 8) :
    Calls Tryz.prog 21 #[.pointer (some ⟨p, 0, none⟩), .int .i64 (g : Int), .int .i64 (i : Int)] w
      fun e w' => e = .returned (.tuple #[.int .u64 ((mem.getD (8 * hosts.getD g 0 + i) 0 : Nat) : Int), .bool true]) ∧ w = w' := by
  obtain ⟨h1, h2, h3, hn, h5⟩ := H
  obtain ⟨g1, g2, ⟨sp, g3⟩, g4, g5⟩ := G
  have a1 := h1.cell (k := 0) rfl
  have b1 := g1.cell (k := 0) rfl
  have b2 := g1.cell (k := 1) rfl
  have c1 := g2.cell (k := 0) rfl
  obtain ⟨h, hh⟩ : ∃ h, hosts.getD g 0 = h := ⟨_, rfl⟩
  have hlt : h < n := by rw [← hh]; exact g5 _ (by simp [List.getD, List.getElem?_eq_getElem hg])
  have d1 : w.cell? ⟨hb, g, none⟩ = some (.int .i64 (h : Int)) := g3.cell (by rw [List.getElem?_append_left (by simpa using hg)]; simp [List.getElem?_eq_getElem hg, i64, ← hh, List.getD])
  have d2 : w.cell? ⟨fb, h * 8 + i, none⟩ = some (.int .u64 ((mem.getD (8 * h + i) 0 : Nat) : Int)) := h2.cell (by
    have : h * 8 + i < mem.length := by omega
    rw [Nat.mul_comm 8 h]; simp [List.getElem?_eq_getElem this, u64, List.getD])
  rw [hh]; clear hh h1 h2 h3 g1 g2 g3 h5 g5
  go_enter Tryz.func21, Tryz.ntmps21
  go_wp2
  go_ret2
  exact ⟨rfl, rfl⟩

theorem some_getD {l : List Nat} {k : Nat} (h : k < l.length) : l[k]? = some (l.getD k 0) := by
  rw [List.getD, List.getElem?_eq_getElem h]; rfl

theorem place_lt {hosts mem : List Nat} {n : Nat} (hl : mem.length = 8 * n) (hb : ∀ h, h ∈ hosts → h < n) {g i : Int} {k : Nat} (h : place hosts g i = some k) : k < mem.length := by
  unfold place at h
  split at h
  · rename_i hc
    obtain ⟨h0, h1, h2, h3⟩ := hc
    have hlt : g.toNat < hosts.length := by omega
    rw [List.getElem?_eq_getElem hlt] at h
    simp at h
    have := hb _ (List.getElem_mem hlt)
    omega
  · simp at h

theorem get_no (w : World) (p gp hb mb fp fb : Nat) (hosts mem : List Nat) (cap n : Nat) (g i : Int) (H : Host w fp fb n mem) (G : Guest w p gp hb mb fp hosts cap n)
    (hn : ¬ (0 ≤ g ∧ g < hosts.length ∧ 0 ≤ i ∧ i < 8)) :
    Calls Tryz.prog 21 #[.pointer (some ⟨p, 0, none⟩), .int .i64 g, .int .i64 i] w
      fun e w' => e = .returned (.tuple #[.int .u64 0, .bool false]) ∧ w = w' := by
  obtain ⟨h1, h2, h3, hn', h5⟩ := H
  obtain ⟨g1, g2, ⟨sp, g3⟩, g4, g5⟩ := G
  have a1 := h1.cell (k := 0) rfl
  have b1 := g1.cell (k := 0) rfl
  have b2 := g1.cell (k := 1) rfl
  have c1 := g2.cell (k := 0) rfl
  by_cases ha : g < 0
  · clear h1 h2 h3 g1 g2 g3 h5 g5 hn
    go_enter Tryz.func21, Tryz.ntmps21
    go_wp2
    go_ret2
    exact ⟨rfl, rfl⟩
  · obtain ⟨g, rfl⟩ := Int.eq_ofNat_of_zero_le (by omega : 0 ≤ g)
    by_cases hb' : hosts.length ≤ g
    · clear h1 h2 h3 g1 g2 g3 h5 g5 hn ha
      go_enter Tryz.func21, Tryz.ntmps21
      go_wp2
      go_ret2
      exact ⟨rfl, rfl⟩
    · have hg : g < hosts.length := by omega
      obtain ⟨h, hh⟩ : ∃ h, hosts.getD g 0 = h := ⟨_, rfl⟩
      have hlt : h < n := by rw [← hh]; exact g5 _ (by simp [List.getD, List.getElem?_eq_getElem hg])
      have d1 : w.cell? ⟨hb, g, none⟩ = some (.int .i64 (h : Int)) := g3.cell (by rw [List.getElem?_append_left (by simpa using hg)]; simp [List.getElem?_eq_getElem hg, i64, ← hh, List.getD])
      have hi : i < 0 ∨ 8 ≤ i := by omega
      clear hh h1 h2 h3 g1 g2 g3 h5 g5 hn ha hb'
      rcases hi with hi | hi
      · go_enter Tryz.func21, Tryz.ntmps21
        go_wp2
        go_ret2
        exact ⟨rfl, rfl⟩
      · go_enter Tryz.func21, Tryz.ntmps21
        go_wp2
        go_ret2
        exact ⟨rfl, rfl⟩

/-- guest.Mem's Get, at all arguments. -/
theorem get_any (w : World) (p gp hb mb fp fb : Nat) (hosts mem : List Nat) (cap n : Nat) (g i : Int) (H : Host w fp fb n mem) (G : Guest w p gp hb mb fp hosts cap n) :
    Calls Tryz.prog 21 #[.pointer (some ⟨p, 0, none⟩), .int .i64 g, .int .i64 i] w
      fun e w' => e = .returned (.tuple #[.int .u64 (((rd hosts mem g i).getD 0 : Nat) : Int), .bool (rd hosts mem g i).isSome]) ∧ w = w' := by
  by_cases hc : 0 ≤ g ∧ g < hosts.length ∧ 0 ≤ i ∧ i < 8
  · obtain ⟨h0, h1, h2, h3⟩ := hc
    obtain ⟨g, rfl⟩ := Int.eq_ofNat_of_zero_le h0
    obtain ⟨i, rfl⟩ := Int.eq_ofNat_of_zero_le h2
    have hg : g < hosts.length := by omega
    refine (get_yes w p gp hb mb fp fb hosts mem cap n g i H G hg (by omega)).mono ?_
    rintro e w' ⟨rfl, rfl⟩
    have hp : place hosts (g : Int) (i : Int) = some (8 * hosts.getD g 0 + i) := by
      unfold place; rw [if_pos ⟨h0, h1, h2, h3⟩]; simp [List.getElem?_eq_getElem hg, List.getD]
    have hl := place_lt H.len G.bd hp
    have hr : rd hosts mem (g : Int) (i : Int) = some (mem.getD (8 * hosts.getD g 0 + i) 0) := by
      unfold rd; rw [hp]; exact some_getD hl
    rw [hr]; exact ⟨rfl, rfl⟩
  · refine (get_no w p gp hb mb fp fb hosts mem cap n g i H G hc).mono ?_
    rintro e w' ⟨rfl, rfl⟩
    have hr : rd hosts mem g i = none := by unfold rd place; rw [if_neg hc]; rfl
    rw [hr]; exact ⟨rfl, rfl⟩

theorem get_open (w : World) (p gp hb mb fp fb : Nat) (hosts mem : List Nat) (cap n : Nat) (g i : Int) (o : Option Nat) (ho : rd hosts mem g i = o) (H : Host w fp fb n mem) (G : Guest w p gp hb mb fp hosts cap n) :
    Calls Tryz.prog 21 #[.pointer (some ⟨p, 0, none⟩), .int .i64 g, .int .i64 i] w
      fun e w' => e = .returned (.tuple #[.int .u64 ((o.getD 0 : Nat) : Int), .bool o.isSome]) ∧ w = w' := ho ▸ get_any w p gp hb mb fp fb hosts mem cap n g i H G
theorem rd_lt {hosts mem : List Nat} (hb : ∀ v, v ∈ mem → v < 2 ^ 64) (g i : Int) : (rd hosts mem g i).getD 0 < 2 ^ 64 := by
  unfold rd
  cases place hosts g i with
  | none => simp
  | some k =>
    simp only [Option.bind_some]
    cases h : mem[k]? with
    | none => simp
    | some v => exact hb v (List.mem_of_getElem? h)

/-- What the words are behind a Set, and whether it was one. -/
def wr (hosts mem : List Nat) (g i : Int) (v : Nat) : List Nat := match place hosts g i with | some k => mem.set k v | none => mem

theorem set_yes (w : World) (p gp hb mb fp fb : Nat) (hosts mem : List Nat) (cap n g i : Nat) (v : Nat) (H : Host w fp fb n mem) (G : Guest w p gp hb mb fp hosts cap n)
    (hg : g < hosts.length) (hi : i < 8) :
    Calls Tryz.prog 42 #[.pointer (some ⟨p, 0, none⟩), .int .i64 (g : Int), .int .i64 (i : Int), .int .u64 (v : Int)] w
      fun e w' => e = .returned (.bool true) ∧ w.setCell ⟨fb, hosts.getD g 0 * 8 + i, none⟩ (.int .u64 (v : Int)) = w' := by
  obtain ⟨h1, h2, h3, hn, h5⟩ := H
  obtain ⟨g1, g2, ⟨sp, g3⟩, g4, g5⟩ := G
  have a1 := h1.cell (k := 0) rfl
  have b1 := g1.cell (k := 0) rfl
  have b2 := g1.cell (k := 1) rfl
  have c1 := g2.cell (k := 0) rfl
  obtain ⟨h, hh⟩ : ∃ h, hosts.getD g 0 = h := ⟨_, rfl⟩
  have hlt : h < n := by rw [← hh]; exact g5 _ (by simp [List.getD, List.getElem?_eq_getElem hg])
  have d1 : w.cell? ⟨hb, g, none⟩ = some (.int .i64 (h : Int)) := g3.cell (by rw [List.getElem?_append_left (by simpa using hg)]; simp [List.getElem?_eq_getElem hg, i64, ← hh, List.getD])
  have d2 : w.cell? ⟨fb, h * 8 + i, none⟩ = some (.int .u64 ((mem.getD (8 * h + i) 0 : Nat) : Int)) := h2.cell (by
    have : h * 8 + i < mem.length := by omega
    rw [Nat.mul_comm 8 h]; simp [List.getElem?_eq_getElem this, u64, List.getD])
  have d3 := h2.free (h * 8 + i)
  rw [hh]; clear hh h1 h2 h3 g1 g2 g3 h5 g5
  go_enter Tryz.func42, Tryz.ntmps42
  go_wp2
  go_ret
  exact ⟨rfl, rfl⟩

theorem set_no (w : World) (p gp hb mb fp fb : Nat) (hosts mem : List Nat) (cap n : Nat) (g i : Int) (v : Nat) (H : Host w fp fb n mem) (G : Guest w p gp hb mb fp hosts cap n)
    (hn : ¬ (0 ≤ g ∧ g < hosts.length ∧ 0 ≤ i ∧ i < 8)) :
    Calls Tryz.prog 42 #[.pointer (some ⟨p, 0, none⟩), .int .i64 g, .int .i64 i, .int .u64 (v : Int)] w
      fun e w' => e = .returned (.bool false) ∧ w = w' := by
  obtain ⟨h1, h2, h3, hn', h5⟩ := H
  obtain ⟨g1, g2, ⟨sp, g3⟩, g4, g5⟩ := G
  have a1 := h1.cell (k := 0) rfl
  have b1 := g1.cell (k := 0) rfl
  have b2 := g1.cell (k := 1) rfl
  have c1 := g2.cell (k := 0) rfl
  by_cases ha : g < 0
  · clear h1 h2 h3 g1 g2 g3 h5 g5 hn
    go_enter Tryz.func42, Tryz.ntmps42
    go_wp2
    go_ret
    exact ⟨rfl, rfl⟩
  · obtain ⟨g, rfl⟩ := Int.eq_ofNat_of_zero_le (by omega : 0 ≤ g)
    by_cases hb' : hosts.length ≤ g
    · clear h1 h2 h3 g1 g2 g3 h5 g5 hn ha
      go_enter Tryz.func42, Tryz.ntmps42
      go_wp2
      go_ret
      exact ⟨rfl, rfl⟩
    · have hg : g < hosts.length := by omega
      obtain ⟨h, hh⟩ : ∃ h, hosts.getD g 0 = h := ⟨_, rfl⟩
      have hlt : h < n := by rw [← hh]; exact g5 _ (by simp [List.getD, List.getElem?_eq_getElem hg])
      have d1 : w.cell? ⟨hb, g, none⟩ = some (.int .i64 (h : Int)) := g3.cell (by rw [List.getElem?_append_left (by simpa using hg)]; simp [List.getElem?_eq_getElem hg, i64, ← hh, List.getD])
      have hi : i < 0 ∨ 8 ≤ i := by omega
      clear hh h1 h2 h3 g1 g2 g3 h5 g5 hn ha hb'
      rcases hi with hi | hi
      · go_enter Tryz.func42, Tryz.ntmps42
        go_wp2
        go_ret
        exact ⟨rfl, rfl⟩
      · go_enter Tryz.func42, Tryz.ntmps42
        go_wp2
        go_ret
        exact ⟨rfl, rfl⟩

theorem Host.kept {w w' : World} {fp fb n : Nat} {mem : List Nat} (H : Host w fp fb n mem) {B : Nat} {S : Nat → Prop} (hk : Kept B S w w') (h1 : fp < B) (h2 : fb < B) (s1 : ¬ S fp) (s2 : ¬ S fb) : Host w' fp fb n mem :=
  ⟨H.hdr.kept hk h1 s1, H.row.kept hk h2 s2, H.len, H.small, H.bd⟩
theorem Host.past {w w' : World} {fp fb n : Nat} {mem : List Nat} (H : Host w fp fb n mem) (hb : Below w.heap.size w w') : Host w' fp fb n mem :=
  ⟨H.hdr.past hb, H.row.past hb, H.len, H.small, H.bd⟩
theorem Guest.kept {w w' : World} {p gp hb mb fp : Nat} {hosts : List Nat} {cap n : Nat} (G : Guest w p gp hb mb fp hosts cap n) {B : Nat} {S : Nat → Prop} (hk : Kept B S w w') (h1 : p < B) (h2 : gp < B) (h3 : hb < B) (s1 : ¬ S p) (s2 : ¬ S gp) (s3 : ¬ S hb) : Guest w' p gp hb mb fp hosts cap n :=
  ⟨G.hdr.kept hk h1 s1, G.gm.kept hk h2 s2, G.row.imp fun _ h => h.kept hk h3 s3, G.len, G.bd⟩
theorem Guest.past {w w' : World} {p gp hb mb fp : Nat} {hosts : List Nat} {cap n : Nat} (G : Guest w p gp hb mb fp hosts cap n) (hk : Below w.heap.size w w') : Guest w' p gp hb mb fp hosts cap n :=
  ⟨G.hdr.past hk, G.gm.past hk, G.row.imp fun _ h => h.past hk, G.len, G.bd⟩

theorem Host.keepT {w w' : World} {fp fb n : Nat} {mem : List Nat} (H : Host w fp fb n mem) {S : Nat → Prop} (hk : KeepT 53 S w w') (s1 : ¬ S fp) (s2 : ¬ S fb) : Host w' fp fb n mem :=
  ⟨H.hdr.keepT hk (by decide) s1, H.row.keepT hk (by decide) s2, H.len, H.small, H.bd⟩
theorem Guest.keepT {w w' : World} {p gp hb mb fp : Nat} {hosts : List Nat} {cap n : Nat} (G : Guest w p gp hb mb fp hosts cap n) {S : Nat → Prop} (hk : KeepT 53 S w w') (s1 : ¬ S p) (s2 : ¬ S gp) (s3 : ¬ S hb) : Guest w' p gp hb mb fp hosts cap n :=
  ⟨G.hdr.keepT hk (by decide) s1, G.gm.keepT hk (by decide) s2, G.row.imp fun _ h => h.keepT hk (by decide) s3, G.len, G.bd⟩

/-- guest.Mem's Set, at all arguments. -/
theorem set_any (w : World) (p gp hb mb fp fb : Nat) (hosts mem : List Nat) (cap n : Nat) (g i : Int) (v : Nat) (hv : v < 2 ^ 64) (H : Host w fp fb n mem) (G : Guest w p gp hb mb fp hosts cap n)
    (n1 : fb ≠ fp) :
    Calls Tryz.prog 42 #[.pointer (some ⟨p, 0, none⟩), .int .i64 g, .int .i64 i, .int .u64 (v : Int)] w
      fun e w' => e = .returned (.bool (place hosts g i).isSome) ∧ Host w' fp fb n (wr hosts mem g i v) ∧ Kept w.heap.size (fun k => k = fb) w w' ∧ w'.heap.size = w.heap.size := by
  by_cases hc : 0 ≤ g ∧ g < hosts.length ∧ 0 ≤ i ∧ i < 8
  · obtain ⟨h0, h1, h2, h3⟩ := hc
    obtain ⟨g, rfl⟩ := Int.eq_ofNat_of_zero_le h0
    obtain ⟨i, rfl⟩ := Int.eq_ofNat_of_zero_le h2
    have hg : g < hosts.length := by omega
    refine (set_yes w p gp hb mb fp fb hosts mem cap n g i v H G hg (by omega)).mono ?_
    rintro e w' ⟨rfl, rfl⟩
    have hp : place hosts (g : Int) (i : Int) = some (8 * hosts.getD g 0 + i) := by
      unfold place; rw [if_pos ⟨h0, h1, h2, h3⟩]; simp [List.getElem?_eq_getElem hg, List.getD]
    refine ⟨by rw [hp]; rfl, ?_, (Kept.refl w.heap.size (fun k => k = fb) w).setCell (p := ⟨fb, hosts.getD g 0 * 8 + i, none⟩) (.inl rfl) _, by simp⟩
    have e : hosts.getD g 0 * 8 + i = 8 * hosts.getD g 0 + i := by omega
    refine ⟨H.hdr.other (Ne.symm n1) _, ?_, by unfold wr; rw [hp]; simpa using H.len, H.small, ?_⟩
    · have := H.row.set (hosts.getD g 0 * 8 + i) (u64 v)
      rw [e] at this
      unfold wr; rw [hp, e]; simpa [u64, List.map_set] using this
    · intro x hx
      unfold wr at hx; rw [hp] at hx
      rcases List.mem_or_eq_of_mem_set hx with h | h
      · exact H.bd x h
      · omega
  · refine (set_no w p gp hb mb fp fb hosts mem cap n g i v H G hc).mono ?_
    rintro e w' ⟨rfl, rfl⟩
    have hr : place hosts g i = none := by unfold place; rw [if_neg hc]
    refine ⟨by rw [hr]; rfl, ?_, Kept.refl _ _ _, rfl⟩
    unfold wr; rw [hr]; exact H
end Go.Proofs.YtgaififhhffpfaaGreatDoor
